/- Functions of the program, told as plain functions, with their walks: written by a program of this claim's out of the translation. Whether texts rise: the walk of query.rise (IsSorted, Clone, Compact). Whether texts rise: the walk of query.rise. What is wrong with a query: the walk of query.May. qcode.list over texts: its walk. qcode.list over clauses: its walk. Queries as bytes: the walks of qcode.put and its closure. Queries that may be; the sizes of their bytes. Queries' bytes are told apart; qcode.Put in closed form. Queries taken, of plain functions. Steps as bytes, of plain functions. Steps taken: what is taken may be laid down. Bytes as digits, lines, scripts: plain functions. script.written: its walk. qcode.taken, of texts: its walk. qcode.taken, of clauses: its walk. The closures of qcode.Take. qcode.Take: its walk. script.maybe, and the closures of script.Put: their walks. script.Put: its walk. script.Take: what it holds while it reads. -/
import Derived.Test.YtocpcnmnhckcpaaShelf
import Derived.Lib.LazyBuf
import Derived.Shelf.Abstract
import Derived.Laws.EntriesVeiled
import Derived.Test.YtocpcnmnhckcpaaYScriptJoins1
import Derived.Test.YtocpcnmnhckcpaaYScriptJoins2
import Derived.Test.YtocpcnmnhckcpaaYScriptJoins3
namespace Go.Proofs.Ytocpcnmnhckcpaa.Prt
open Go.RowKit Go.Proofs.YtocpcnmnhckcpaaW.PrintWords Go.Proofs.YtocpcnmnhckcpaaW.PrintLast Go.Proofs.YtocpcnmnhckcpaaW.PrintMore
attribute [local go_sem] max2_int min2_int max_two min_two max_three min_three max_four min_four   -- for this text's walks alone
set_option linter.unusedVariables false
set_option linter.unusedSimpArgs false

def slices_IsSorted_string_string.l0 : Nat → List ByteArray → Int → Option (Bool)
  | 0, _, _ => none
  | k + 1, x0, x3 => if x3 > 0 then (if 0 ≤ x3 then (if x3 < (x0.length : Int) then (if 0 ≤ (wrap64 (x3 - 1)) then (if (wrap64 (x3 - 1)) < (x0.length : Int) then ((cmp_Less_string.f (rdOf ByteArray.empty x0 x3) (rdOf ByteArray.empty x0 (wrap64 (x3 - 1)))).bind fun t109 => (if t109 = true then (some false) else (slices_IsSorted_string_string.l0 k x0 (wrap64 (x3 - 1))))) else (none)) else (none)) else (none)) else (none)) else (some true)
def slices_IsSorted_string_string.f (k : Nat) (l0 : List ByteArray) : Option (Bool) := slices_IsSorted_string_string.l0 k l0 (wrap64 ((l0.length : Int) - 1))
set_option maxHeartbeats 8000000 in
set_option maxRecDepth 100000 in
theorem slices_IsSorted_string_string.calls (k : Nat) (A0 : Option Addr) (c0 : Nat) (l0 : List ByteArray) (r : Bool) (w : World) (hr0 : Kd.C Kd.string w A0 l0.length l0) (hc0 : l0.length ≤ c0) (h : slices_IsSorted_string_string.f k l0 = some r) :
    Calls Try.prog 88 #[.slice A0 l0.length c0] w fun e w' => e = .returned (.bool r) ∧ Drawn0 w w' := by
  have HR0 := Aside0.mk hr0
  have HC0 := Aside0.mk hc0
  clear hr0 hc0
  have H : (slices_IsSorted_string_string.l0 k l0 (wrap64 ((l0.length : Int) - 1))) = some r := h
  clear h
  have H' := Aside0.mk H
  clear H
  go_enter Try.func88, Try.ntmps88
  go_wp2
  repeat (go_quiet (fail); try go_wp2)
  go_loopg [3] k (fun kq v3 w' => ∃ (x3_1 : Int), v3 = .int .i64 x3_1 ∧ Aside0 (slices_IsSorted_string_string.l0 kq l0 x3_1 = some r) ∧ Aside0 (kq ≤ k) ∧ Drawn0 w w')
  case atStart => exact ⟨(wrap64 ((l0.length : Int) - 1)), (by first | rfl | (simp; done) | (simp [*]; done)), H', ⟨Nat.le_refl _⟩, by repeat (first | exact Drawn0.refl _ | apply Drawn0.step)⟩
  case round =>
    clear H'
    obtain ⟨x3_1, rfl, HA, HK1, ⟨m1, rfl⟩⟩ := hrel
    cases gk with
    | zero => exact absurd HA.out (by simp [slices_IsSorted_string_string.l0])
    | succ k1 =>
      have H := HA.out
      clear HA
      simp only [slices_IsSorted_string_string.l0] at H
      by_cases c2 : x3_1 > 0
      · rw [if_pos c2] at H
        have c2b0 : decide (0 < x3_1) = true := decide_eq_true c2
        clear c2
        by_cases c3 : 0 ≤ x3_1
        · rw [if_pos c3] at H
          have c3b0 : decide (0 ≤ x3_1) = true := decide_eq_true c3
          clear c3
          by_cases c4 : x3_1 < (l0.length : Int)
          · rw [if_pos c4] at H
            have c4b0 : decide (x3_1 < (l0.length : Int)) = true := decide_eq_true c4
            clear c4
            obtain ⟨ji5, hji5⟩ : ∃ j_ : Int, (wrap64 (x3_1 - 1)) = j_ := ⟨_, rfl⟩
            replace H : (if 0 ≤ (ji5) then (if (ji5) < (l0.length : Int) then ((cmp_Less_string.f (rdOf ByteArray.empty l0 x3_1) (rdOf ByteArray.empty l0 (ji5))).bind fun t109 => (if t109 = true then (some false) else (slices_IsSorted_string_string.l0 k1 l0 ji5))) else (none)) else (none)) = some r := by first | (rw [hji5] at H; exact H) | (simp only [hji5] at H ⊢; exact H)
            have hji5w : (IntKind.i64.wrap (x3_1 - 1)) = ji5 := (i64_w _).trans hji5
            by_cases c6 : 0 ≤ (ji5)
            · rw [if_pos c6] at H
              have c6b0 : decide (0 ≤ (ji5)) = true := decide_eq_true c6
              clear c6
              by_cases c7 : (ji5) < (l0.length : Int)
              · rw [if_pos c7] at H
                have c7b0 : decide ((ji5) < (l0.length : Int)) = true := decide_eq_true c7
                clear c7
                replace H := Option.bind_eq_some_iff.mp H
                obtain ⟨t109, A80, H⟩ := H
                replace H : (if t109 = true then (some false) else (slices_IsSorted_string_string.l0 k1 l0 ji5)) = some r := H
                have A8 := Aside0.mk A80
                clear A80
                by_cases c9 : t109 = true
                · subst c9
                  have H1 : (some false) = some r := by rw [if_pos rfl] at H; exact H
                  clear H
                  have H := H1
                  clear H1
                  obtain rfl := Option.some.inj H
                  have p107 : 0 ≤ (x3_1 : Int) := of_decide_eq_true (by first | (with_reducible assumption) | assumption)
                  have q107 : x3_1 < (l0.length : Int) := of_decide_eq_true (by first | (with_reducible assumption) | assumption)
                  obtain ⟨ad107, e107, hx107_0⟩ := Kd.at_string HR0.out x3_1 p107 q107
                  cases e107
                  replace p107 := eq_true p107
                  replace q107 := eq_true q107
                  have p108 : 0 ≤ ((ji5) : Int) := of_decide_eq_true (by first | (with_reducible assumption) | assumption)
                  have q108 : (ji5) < (l0.length : Int) := of_decide_eq_true (by first | (with_reducible assumption) | assumption)
                  obtain ⟨ad108, e108, hx108_0⟩ := Kd.at_string HR0.out (ji5) p108 q108
                  obtain rfl : ad107 = ad108 := (by injection e108)
                  replace p108 := eq_true p108
                  replace q108 := eq_true q108
                  go_wp2_with (first | (go_at_call 93; (with_reducible refine (cmp_Less_string.calls (rdOf ByteArray.empty l0 x3_1) (rdOf ByteArray.empty l0 (ji5)) true _ A8.out).mono ?_); rintro e w' ⟨rfl, ⟨nd, rfl⟩⟩; (try first | exact ⟨rfl, _, World.drewN_drewN _ _ _⟩ | exact ⟨rfl, _, Eq.trans (World.drewN_drewN _ _ _) (congrArg (World.drewN _) (Nat.add_assoc _ _ _))⟩)))
                  repeat (go_quiet (first | (go_at_call 93; (with_reducible refine (cmp_Less_string.calls (rdOf ByteArray.empty l0 x3_1) (rdOf ByteArray.empty l0 (ji5)) true _ A8.out).mono ?_); rintro e w' ⟨rfl, ⟨nd, rfl⟩⟩; (try first | exact ⟨rfl, _, World.drewN_drewN _ _ _⟩ | exact ⟨rfl, _, Eq.trans (World.drewN_drewN _ _ _) (congrArg (World.drewN _) (Nat.add_assoc _ _ _))⟩))); try go_wp2_with (first | (go_at_call 93; (with_reducible refine (cmp_Less_string.calls (rdOf ByteArray.empty l0 x3_1) (rdOf ByteArray.empty l0 (ji5)) true _ A8.out).mono ?_); rintro e w' ⟨rfl, ⟨nd, rfl⟩⟩; (try first | exact ⟨rfl, _, World.drewN_drewN _ _ _⟩ | exact ⟨rfl, _, Eq.trans (World.drewN_drewN _ _ _) (congrArg (World.drewN _) (Nat.add_assoc _ _ _))⟩))))
                  go_ret
                  exact ⟨by first | rfl | (simp; done) | (simp only [← hji5] <;> (first | rfl | simp)) | (simp [*]; done), by repeat (first | exact Drawn0.refl _ | apply Drawn0.step)⟩
                · replace c9 := Bool.eq_false_iff.mpr c9
                  subst c9
                  have H1 : (slices_IsSorted_string_string.l0 k1 l0 ji5) = some r := by rw [if_neg (show ¬ (false = true) by decide)] at H; exact H
                  clear H
                  have H := H1
                  clear H1
                  have H' := Aside0.mk H
                  clear H
                  have p107 : 0 ≤ (x3_1 : Int) := of_decide_eq_true (by first | (with_reducible assumption) | assumption)
                  have q107 : x3_1 < (l0.length : Int) := of_decide_eq_true (by first | (with_reducible assumption) | assumption)
                  obtain ⟨ad107, e107, hx107_0⟩ := Kd.at_string HR0.out x3_1 p107 q107
                  cases e107
                  replace p107 := eq_true p107
                  replace q107 := eq_true q107
                  have p108 : 0 ≤ ((ji5) : Int) := of_decide_eq_true (by first | (with_reducible assumption) | assumption)
                  have q108 : (ji5) < (l0.length : Int) := of_decide_eq_true (by first | (with_reducible assumption) | assumption)
                  obtain ⟨ad108, e108, hx108_0⟩ := Kd.at_string HR0.out (ji5) p108 q108
                  obtain rfl : ad107 = ad108 := (by injection e108)
                  replace p108 := eq_true p108
                  replace q108 := eq_true q108
                  go_wp2_with (first | (go_at_call 93; (with_reducible refine (cmp_Less_string.calls (rdOf ByteArray.empty l0 x3_1) (rdOf ByteArray.empty l0 (ji5)) false _ A8.out).mono ?_); rintro e w' ⟨rfl, ⟨nd, rfl⟩⟩; (try first | exact ⟨rfl, _, World.drewN_drewN _ _ _⟩ | exact ⟨rfl, _, Eq.trans (World.drewN_drewN _ _ _) (congrArg (World.drewN _) (Nat.add_assoc _ _ _))⟩)))
                  repeat (go_quiet (first | (go_at_call 93; (with_reducible refine (cmp_Less_string.calls (rdOf ByteArray.empty l0 x3_1) (rdOf ByteArray.empty l0 (ji5)) false _ A8.out).mono ?_); rintro e w' ⟨rfl, ⟨nd, rfl⟩⟩; (try first | exact ⟨rfl, _, World.drewN_drewN _ _ _⟩ | exact ⟨rfl, _, Eq.trans (World.drewN_drewN _ _ _) (congrArg (World.drewN _) (Nat.add_assoc _ _ _))⟩))); try go_wp2_with (first | (go_at_call 93; (with_reducible refine (cmp_Less_string.calls (rdOf ByteArray.empty l0 x3_1) (rdOf ByteArray.empty l0 (ji5)) false _ A8.out).mono ?_); rintro e w' ⟨rfl, ⟨nd, rfl⟩⟩; (try first | exact ⟨rfl, _, World.drewN_drewN _ _ _⟩ | exact ⟨rfl, _, Eq.trans (World.drewN_drewN _ _ _) (congrArg (World.drewN _) (Nat.add_assoc _ _ _))⟩))))
                  go_roundg k1
                  case measure => have := HK1.out; omega
                  case rel => exact ⟨(ji5), (by first | rfl | (simp; done) | (simp only [← hji5] <;> (first | rfl | simp)) | (simp [*]; done)), H', ⟨by have := HK1.out; omega⟩, by repeat (first | exact Drawn0.refl _ | apply Drawn0.step)⟩
              · rw [if_neg c7] at H
                exact absurd H (by simp)
            · rw [if_neg c6] at H
              exact absurd H (by simp)
          · rw [if_neg c4] at H
            exact absurd H (by simp)
        · rw [if_neg c3] at H
          exact absurd H (by simp)
      · rw [if_neg c2] at H
        have c2b0 : decide (0 < x3_1) = false := decide_eq_false c2
        clear c2
        obtain rfl := Option.some.inj H
        go_wp2
        repeat (go_quiet (fail); try go_wp2)
        go_ret
        exact ⟨by first | rfl | (simp; done) | (simp [*]; done), by repeat (first | exact Drawn0.refl _ | apply Drawn0.step)⟩

end Go.Proofs.Ytocpcnmnhckcpaa.Prt
namespace Go.Proofs.Ytocpcnmnhckcpaa.Nam
open Go.RowKit Go.Proofs.YtocpcnmnhckcpaaW.PrintWords Go.Proofs.YtocpcnmnhckcpaaW.PrintLast Go.Proofs.YtocpcnmnhckcpaaW.PrintMore Go.Proofs.Ytocpcnmnhckcpaa.Num Go.Proofs.Ytocpcnmnhckcpaa.Prt
set_option linter.unusedVariables false
set_option linter.unusedSimpArgs false

theorem less_tri : ∀ x y : List UInt8, Op.bytesLess x y = true ↔ ¬ (Op.bytesLess y x = true) ∧ x ≠ y
  | [], [] => by simp [Op.bytesLess]
  | _ :: _, [] => by simp [Op.bytesLess]
  | [], _ :: _ => by simp [Op.bytesLess]
  | a :: x, b :: y => by
    have ih := less_tri x y
    simp only [Op.bytesLess, Bool.or_eq_true, Bool.and_eq_true, decide_eq_true_eq, beq_iff_eq, ne_eq, List.cons.injEq, not_or, not_and]
    have h1 : a < b ↔ a.toNat < b.toNat := UInt8.lt_iff_toNat_lt
    have h2 : b < a ↔ b.toNat < a.toNat := UInt8.lt_iff_toNat_lt
    have h3 : a = b ↔ a.toNat = b.toNat := ⟨fun h => by rw [h], UInt8.toNat_inj.1⟩
    have h4 : b = a ↔ b.toNat = a.toNat := ⟨fun h => by rw [h], UInt8.toNat_inj.1⟩
    rw [h1, h2, h3, h4, ih]
    constructor
    · rintro (h | ⟨h, g1, g2⟩)
      · exact ⟨⟨by omega, fun e => by omega⟩, fun e => by omega⟩
      · exact ⟨⟨by omega, fun _ => g1⟩, fun _ => g2⟩
    · rintro ⟨⟨g1, g2⟩, g3⟩
      by_cases e : a.toNat = b.toNat
      · exact .inr ⟨e, g2 e.symm, g3 e⟩
      · exact .inl (by omega)
theorem lessS_iff (a b : ByteArray) : lessS a b = (!lessS b a && decide (a.data.toList ≠ b.data.toList)) := by
  have h := less_tri a.toList b.toList
  unfold lessS
  rw [Bool.eq_iff_iff, h, Bool.and_eq_true, Bool.not_eq_true', decide_eq_true_iff, Lib.toList_data, Lib.toList_data, Bool.not_eq_true]
theorem rise_all (l : List ByteArray) : riseB l = (List.range (l.length - 1)).all fun j => lessS (l.getD j ByteArray.empty) (l.getD (j + 1) ByteArray.empty) := by
  induction l with
  | nil => rfl
  | cons a r ih =>
    cases r with
    | nil => rfl
    | cons b s =>
      rw [riseB, ih]
      simp only [List.length_cons, Nat.add_sub_cancel]
      rw [List.range_succ_eq_map, List.all_cons, List.all_map]
      rfl
/-- No text is less than the one before it. -/
def sortedB (l : List ByteArray) : Bool := (List.range (l.length - 1)).all fun j => !lessS (l.getD (j + 1) ByteArray.empty) (l.getD j ByteArray.empty)
/-- No text is the one before it. -/
def apartB (l : List ByteArray) : Bool := (List.range (l.length - 1)).all fun j => decide ((l.getD j ByteArray.empty).data.toList ≠ (l.getD (j + 1) ByteArray.empty).data.toList)
theorem rise_parts (l : List ByteArray) : riseB l = (sortedB l && apartB l) := by
  unfold sortedB apartB
  rw [rise_all, Bool.eq_iff_iff, Bool.and_eq_true, List.all_eq_true, List.all_eq_true, List.all_eq_true]
  constructor
  · intro h
    refine ⟨fun j hj => ?_, fun j hj => ?_⟩
    · have := h j hj; rw [lessS_iff, Bool.and_eq_true] at this; exact this.1
    · have := h j hj; rw [lessS_iff, Bool.and_eq_true] at this; exact this.2
  · rintro ⟨h1, h2⟩ j hj
    rw [lessS_iff, h1 j hj, h2 j hj]; rfl
theorem less_val (a b : ByteArray) : cmp_Less_string.f a b = some (lessS a b) := by
  unfold cmp_Less_string.f cmp_isNaN_string.f
  simp only [Option.bind_some, bne_self_eq_false, Bool.false_eq_true, if_false]
  rfl
theorem sorted_loop (l : List ByteArray) (hl : l.length ≤ 9223372036854775807) : ∀ (i k : Nat), i + 1 ≤ l.length → i < k → slices_IsSorted_string_string.l0 k l (i : Int) = some ((List.range i).all fun j => !lessS (l.getD (j + 1) ByteArray.empty) (l.getD j ByteArray.empty)) := by
  intro i
  induction i with
  | zero =>
    intro k hi hk
    obtain ⟨k, rfl⟩ : ∃ m, k = m + 1 := ⟨k - 1, by omega⟩
    rw [slices_IsSorted_string_string.l0, if_neg (by omega)]; rfl
  | succ i ih =>
    intro k hi hk
    obtain ⟨k, rfl⟩ : ∃ m, k = m + 1 := ⟨k - 1, by omega⟩
    have e1 : wrap64 (((i + 1 : Nat) : Int) - 1) = (i : Int) := by rw [wrapI (by omega) (by omega)]; omega
    rw [slices_IsSorted_string_string.l0, if_pos (by omega), if_pos (by omega), if_pos (by omega), e1, if_pos (by omega), if_pos (by omega), less_val, List.range_succ, List.all_append]
    simp only [Option.bind_some]
    have e2 : lessS (rdOf ByteArray.empty l ((i + 1 : Nat) : Int)) (rdOf ByteArray.empty l (i : Int)) = lessS (l.getD (i + 1) ByteArray.empty) (l.getD i ByteArray.empty) := rfl
    rw [e2]
    cases hs : lessS (l.getD (i + 1) ByteArray.empty) (l.getD i ByteArray.empty) with
    | true => rw [if_pos rfl]; simp only [List.all_cons, List.all_nil, hs]; simp
    | false => rw [if_neg (by decide), ih k (by omega) (by omega)]; simp only [List.all_cons, List.all_nil, hs]; simp
theorem sorted_val (l : List ByteArray) (hl : l.length ≤ 9223372036854775807) : slices_IsSorted_string_string.f (l.length + 1) l = some (sortedB l) := by
  unfold slices_IsSorted_string_string.f sortedB
  cases h : l.length with
  | zero =>
    have e : wrap64 (((0 : Nat) : Int) - 1) = -1 := by rw [wrapI (by omega) (by omega)]; rfl
    rw [e, slices_IsSorted_string_string.l0, if_neg (by omega)]; rfl
  | succ n =>
    have e : wrap64 (((n + 1 : Nat) : Int) - 1) = (n : Int) := by rw [wrapI (by omega) (by omega)]; omega
    rw [e, sorted_loop l hl n (n + 1 + 1) (by omega) (by omega)]; rfl
/-- Of texts that are all apart none goes. -/
theorem compact_len (l : List ByteArray) : ((Lib.compact (Lib.strsOf (fun i => l.getD i ByteArray.empty) l.length)).length == l.length) = apartB l := by
  obtain ⟨d, hd⟩ : ∃ d, d = (Lib.strsOf (fun i => l.getD i ByteArray.empty) l.length).toArray := ⟨_, rfl⟩
  have hz : ∀ j, j < l.length → d[j]! = (l.getD j ByteArray.empty).data.toList := by
    intro j hj
    rw [hd]
    unfold Lib.strsOf
    simp [hj]
  have e : (Lib.compact (Lib.strsOf (fun i => l.getD i ByteArray.empty) l.length)).length = ((List.range l.length).filter (Lib.keeps d)).length := by
    unfold Lib.compact Lib.compactUpTo
    rw [List.length_map, Lib.strsOf_length, hd]
  rw [e, Bool.eq_iff_iff, beq_iff_eq]
  unfold apartB
  rw [List.all_eq_true]
  have h2 : ((List.range l.length).filter (Lib.keeps d)).length = l.length ↔ ∀ a ∈ List.range l.length, Lib.keeps d a = true := by
    have := List.length_filter_eq_length_iff (p := Lib.keeps d) (l := List.range l.length)
    rwa [List.length_range] at this
  rw [h2]
  unfold Lib.keeps
  constructor
  · intro h j hj
    rw [List.mem_range] at hj
    have h3 := h (j + 1) (List.mem_range.2 (by omega))
    rw [decide_eq_true_iff] at h3 ⊢
    rcases h3 with h3 | h3
    · omega
    · rw [hz (j + 1) (by omega), Nat.add_sub_cancel, hz j (by omega)] at h3
      exact fun e => h3 e.symm
  · intro h j hj
    rw [List.mem_range] at hj
    rw [decide_eq_true_iff]
    by_cases h0 : j = 0
    · exact .inl h0
    · refine .inr ?_
      obtain ⟨i, rfl⟩ : ∃ i, j = i + 1 := ⟨j - 1, by omega⟩
      have h3 := h i (List.mem_range.2 (by omega))
      rw [decide_eq_true_iff] at h3
      rw [hz (i + 1) (by omega), Nat.add_sub_cancel, hz i (by omega)]
      exact fun e => h3 e.symm
end Go.Proofs.Ytocpcnmnhckcpaa.Nam
namespace Go.Proofs.Ytocpcnmnhckcpaa.Nam
open Go.RowKit Go.Proofs.YtocpcnmnhckcpaaW.PrintWords Go.Proofs.YtocpcnmnhckcpaaW.PrintLast Go.Proofs.YtocpcnmnhckcpaaW.PrintMore Go.Proofs.Ytocpcnmnhckcpaa.Num Go.Proofs.Ytocpcnmnhckcpaa.Prt
set_option linter.unusedVariables false
set_option linter.unusedSimpArgs false

theorem cells_of (A : Option Addr) (l : List ByteArray) (w : World) (hC : Kd.C Kd.string w A l.length l) (h0 : 0 < l.length) : ∃ b off, A = some ⟨b, off, none⟩ ∧ ∀ j, j < l.length → w.cell? ⟨b, off + j, none⟩ = some (.string (l.getD j ByteArray.empty)) := by
  obtain ⟨ad, e_, hx⟩ := Kd.at_string hC ((0 : Nat) : Int) (by omega) (by omega)
  subst e_
  obtain ⟨b, off, spot⟩ := ad
  have hs := World.cell?_spot hx
  simp only [Int.toNat_natCast, Addr.add, if_pos rfl] at hs
  subst hs
  refine ⟨b, off, rfl, fun j hj => ?_⟩
  obtain ⟨ad, e_, hx⟩ := Kd.at_string hC (j : Int) (by omega) (by omega)
  cases e_
  rw [Int.toNat_natCast] at hx
  have e : (⟨b, off, none⟩ : Addr).add j = ⟨b, off + j, none⟩ := by
    unfold Addr.add
    by_cases h : j = 0
    · subst h; rfl
    · rw [if_neg h]
  rw [e] at hx
  rw [hx]; rfl
theorem own_slice {w : World} {base n : Nat} {v : Value} {xs : List Value} (h : w.ownsRow base 9 1 v n xs) (hv : v ≠ .slice none 0 0) : ∃ g cap, v = .slice (some ⟨g, 0, none⟩) n cap ∧ base ≤ g ∧ n ≤ cap := by
  rcases h.2 with ⟨e, _⟩ | ⟨g, cap, cur, e, h1, h2, h3, h4, h5, h6⟩
  · exact absurd e hv
  · exact ⟨g, cap, e, h1, h3⟩
theorem rise_calls (A : Option Addr) (c : Nat) (l : List ByteArray) (w : World) (hC : Kd.C Kd.string w A l.length l) (hc : l.length ≤ c) (hl : l.length ≤ 1000000) :
    Calls Try.prog 74 #[.slice A l.length c] w fun e w' => e = .returned (.bool (riseB l)) ∧ Below w.heap.size w w' := by
  have HR := Aside0.mk (rise_parts l)
  have HCL := Aside0.mk (compact_len l)
  have HSO := Aside0.mk (slices_IsSorted_string_string.calls (l.length + 1) A c l (sortedB l) w hC hc (sorted_val l (by omega)))
  have HC := Aside0.mk hC
  clear hC hc
  go_enter Try.func74, Try.ntmps74
  go_wp2_with fail
  refine HSO.out.mono ?_
  rintro e w1 ⟨rfl, hd⟩
  have HB1 := Aside0.mk hd.below
  clear hd HSO
  cases hs : sortedB l with
  | false =>
    have HR2 := Aside0.mk (show riseB l = false by rw [HR.out, hs]; rfl)
    clear hs
    go_wp2
    go_ret
    exact ⟨by rw [HR2.out]; rfl, HB1.out⟩
  | true =>
  have HR2 := Aside0.mk (show riseB l = apartB l by rw [HR.out, hs]; rfl)
  clear hs HR
  by_cases h0 : l.length = 0
  · have HAP := Aside0.mk (show apartB l = true by unfold apartB; rw [h0]; rfl)
    have h0' : (l.length : Int) = 0 := by omega
    cases A with
    | none =>
      have HT1 := Aside0.mk (Try.slices_Clone_string_nil l.length c w1)
      have HT2 := Aside0.mk (Try.slices_Compact_string_empty none 0 w1)
      have d0 : ((0 : Int) == (l.length : Int)) = true := beq_iff_eq.mpr h0'.symm
      clear h0 h0'
      go_wp2_with fail
      refine HT1.out.mono ?_
      rintro e w2 ⟨rfl, rfl⟩
      go_wp2_with fail
      refine HT2.out.mono ?_
      rintro e w3 ⟨rfl, rfl⟩
      go_wp2
      go_ret
      exact ⟨by rw [HR2.out, HAP.out]; rfl, HB1.out⟩
    | some ad =>
      have HT1 : Aside0 (Calls Try.prog 90 #[.slice (some ad) l.length c] w1 fun e w' => ∃ v', e = .returned v' ∧ w'.ownsRow w1.heap.size 9 1 v' 0 [] ∧ v' ≠ .slice none 0 0 ∧ Below w1.heap.size w1 w') := ⟨by rw [h0]; exact Try.slices_Clone_string_zero ad c w1⟩
      have d0 : ((0 : Int) == (l.length : Int)) = true := beq_iff_eq.mpr h0'.symm
      clear h0 h0'
      go_wp2_with fail
      refine HT1.out.mono ?_
      rintro e w2 ⟨v, rfl, ho, hv, hb⟩
      obtain ⟨g, cap, rfl, hg, hcap⟩ := own_slice ho hv
      have HB2 := Aside0.mk (below_step HB1.out hb)
      clear ho hv hb hg
      have HT2 := Aside0.mk (Try.slices_Compact_string_empty (some ⟨g, 0, none⟩) cap w2)
      go_wp2_with fail
      refine HT2.out.mono ?_
      rintro e w3 ⟨rfl, rfl⟩
      go_wp2
      go_ret
      exact ⟨by rw [HR2.out, HAP.out]; rfl, HB2.out⟩
  · obtain ⟨b, off, rfl, hcell⟩ := cells_of A l w1 (Kd.C_below HC.out HB1.out) (by omega)
    have HT1 := Aside0.mk (Try.slices_Clone_string b off l.length c l w1 (Nat.le_refl _) (by omega) hcell)
    clear hcell h0
    go_wp2_with fail
    refine HT1.out.mono ?_
    rintro e w2 ⟨v, rfl, ho, hv, hb⟩
    obtain ⟨g, cap, rfl, hg, hcap⟩ := own_slice ho hv
    have HB2 := Aside0.mk (below_step HB1.out hb)
    have HG := Aside0.mk (show w.heap.size ≤ g from Nat.le_trans HB1.out.size hg)
    have HT2 := Aside0.mk (Try.slices_Compact_string_cells g 0 l.length cap (fun i => l.getD i ByteArray.empty) w2 (by omega) hcap (fun i hi => by
      have h1 := World.ownsRow.cellAt ho i (by omega)
      rw [Nat.zero_add, h1, List.take_length, List.getElem?_map, List.getElem?_eq_getElem hi, List.getD_eq_getElem?_getD, List.getElem?_eq_getElem hi]; rfl) (fun j hj => by rw [Nat.zero_add]; exact World.ownsRow.frozenAt ho j))
    clear ho hv hb hg hcap HT1
    go_wp2_with fail
    refine HT2.out.mono ?_
    rintro e w3 ⟨rfl, q, rfl⟩
    clear HT2
    obtain ⟨m, hm⟩ : ∃ m, m = (Lib.compact (Lib.strsOf (fun i => l.getD i ByteArray.empty) l.length)).length := ⟨_, rfl⟩
    have HM : Aside0 (((m : Int) == (l.length : Int)) = apartB l) := ⟨by
      rw [← HCL.out, ← hm, Bool.eq_iff_iff, beq_iff_eq, beq_iff_eq]; omega⟩
    rw [← hm]
    clear hm
    go_wp2
    go_ret
    exact ⟨by rw [HR2.out, ← HM.out]; rfl, Go.below_setCells HG.out _ _ _ (pw_below_drewN HB2.out q)⟩
end Go.Proofs.Ytocpcnmnhckcpaa.Nam
namespace Go.Proofs.Ytocpcnmnhckcpaa.Prt
open Go.RowKit Go.Proofs.YtocpcnmnhckcpaaW.PrintWords Go.Proofs.YtocpcnmnhckcpaaW.PrintLast Go.Proofs.YtocpcnmnhckcpaaW.PrintMore Go.Proofs.Ytocpcnmnhckcpaa.Num Go.Proofs.Ytocpcnmnhckcpaa.Nam
set_option linter.unusedVariables false
set_option linter.unusedSimpArgs false
def query_rise.f (l0 : List ByteArray) : Option (Bool) := if l0.length ≤ 1000000 then some (riseB l0) else none
theorem query_rise.calls (A0 : Option Addr) (c0 : Nat) (l0 : List ByteArray) (r : Bool) (w : World) (hr0 : Kd.C Kd.string w A0 l0.length l0) (hc0 : l0.length ≤ c0) (h : query_rise.f l0 = some r) :
    Calls Try.prog 74 #[.slice A0 l0.length c0] w fun e w' => e = .returned (.bool r) ∧ Below w.heap.size w w' := by
  unfold query_rise.f at h
  by_cases hc : l0.length ≤ 1000000
  · rw [if_pos hc] at h
    obtain rfl := Option.some.inj h
    exact rise_calls A0 c0 l0 w hr0 hc0 hc
  · rw [if_neg hc] at h; cases h
end Go.Proofs.Ytocpcnmnhckcpaa.Prt
namespace Go.Proofs.Ytocpcnmnhckcpaa.Prt
open Go.RowKit Go.Proofs.YtocpcnmnhckcpaaW.PrintWords Go.Proofs.YtocpcnmnhckcpaaW.PrintLast Go.Proofs.YtocpcnmnhckcpaaW.PrintMore
attribute [local go_sem] max2_int min2_int max_two min_two max_three min_three max_four min_four   -- for this text's walks alone
set_option linter.unusedVariables false
set_option linter.unusedSimpArgs false

def query_May_3.f (l0_0 : List ByteArray) (l0_1 : List ByteArray) : Option (Bool) := (query_rise.f l0_0).bind fun t111 => (if t111 = true then ((query_rise.f l0_1).bind fun t112 => (some (!t112))) else (some true))
set_option maxHeartbeats 8000000 in
set_option maxRecDepth 100000 in
theorem query_May_3.calls (A0_0 : Option Addr) (c0_0 : Nat) (l0_0 : List ByteArray) (A0_1 : Option Addr) (c0_1 : Nat) (l0_1 : List ByteArray) (r : Bool) (w : World) (hr0_0 : Kd.C Kd.string w A0_0 l0_0.length l0_0) (hc0_0 : l0_0.length ≤ c0_0) (hr0_1 : Kd.C Kd.string w A0_1 l0_1.length l0_1) (hc0_1 : l0_1.length ≤ c0_1) (h : query_May_3.f l0_0 l0_1 = some r) :
    Calls Try.prog 73 #[.agg #[.slice A0_0 l0_0.length c0_0, .slice A0_1 l0_1.length c0_1]] w fun e w' => e = .returned (.bool r) ∧ Below w.heap.size w w' := by
  have hu92 := Try.underlying92
  have HR0_0 := Aside0.mk hr0_0
  have HC0_0 := Aside0.mk hc0_0
  clear hr0_0 hc0_0
  have HR0_1 := Aside0.mk hr0_1
  have HC0_1 := Aside0.mk hc0_1
  clear hr0_1 hc0_1
  have HB := Aside0.mk (Below.refl w.heap.size w)
  have H : ((query_rise.f l0_0).bind fun t111 => (if t111 = true then ((query_rise.f l0_1).bind fun t112 => (some (!t112))) else (some true))) = some r := h
  clear h
  replace H := Option.bind_eq_some_iff.mp H
  obtain ⟨t111, A20, H⟩ := H
  replace H : (if t111 = true then ((query_rise.f l0_1).bind fun t112 => (some (!t112))) else (some true)) = some r := H
  have A2 := Aside0.mk A20
  clear A20
  by_cases c3 : t111 = true
  · subst c3
    have H1 : ((query_rise.f l0_1).bind fun t112 => (some (!t112))) = some r := by rw [if_pos rfl] at H; exact H
    clear H
    have H := H1
    clear H1
    replace H := Option.bind_eq_some_iff.mp H
    obtain ⟨t112, A40, H⟩ := H
    replace H : (some (!t112)) = some r := H
    have A4 := Aside0.mk A40
    clear A40
    obtain rfl := Option.some.inj H
    go_enter Try.func73, Try.ntmps73
    go_wp2_with (first | ((with_reducible refine gate_dst (N := 1) rfl ?_); refine box_event ?hg (N := 1) ?hd (cs := #[.slice A0_0 l0_0.length c0_0, .slice A0_1 l0_1.length c0_1]) (t := 92) ?hr ?_; (case hd => rfl); (case hg => rfl); (case hr => first | (go_simp; done) | (go_simp; rfl)); intro gb110 hg w5 hbox hb; have n0_ := Aside0.mk (below_step (by repeat (first | (with_reducible first | exact HB.out | apply below_alloc | apply pw_below_drewN | apply below_drew1) | exact HB.out)) hb); have n1_ := Aside0.mk (hbox); have n2_ := Aside0.mk ((by rw [hg]; exact (below_size (by repeat (first | (with_reducible first | exact HB.out | apply below_alloc | apply pw_below_drewN | apply below_drew1) | exact HB.out))) : w.heap.size ≤ gb110)); have n3_ := Aside0.mk ((by rw [hg]; exact (below_size (by repeat (first | (with_reducible first | exact HB.out | apply below_alloc | apply pw_below_drewN | apply below_drew1) | exact HB.out))) : w.heap.size ≤ gb110)); clear HB; have HB := n0_; have BK110 := n1_; have GW110 := n2_; have GE110 := n3_; clear n0_ n1_ n2_ n3_; clear hb hbox hg; have hcz6_0 : w5.cell? ⟨gb110, 0, none⟩ = some (.slice A0_0 l0_0.length c0_0) := (blk_cell BK110.out 0).trans rfl; have hcz6_1 : w5.cell? ⟨gb110, 1, none⟩ = some (.slice A0_1 l0_1.length c0_1) := (blk_cell BK110.out 1).trans rfl; have hfz6_0 := blk_frozen BK110.out 0; have hfz6_1 := blk_frozen BK110.out 1) | ((with_reducible refine gate_callee (f := 74) rfl ?_); refine goesL_ (some 5) rfl rfl Try.func74 (by kernel_rfl) rfl #[.slice A0_0 l0_0.length c0_0] rfl (by (try simp only [List.map_toArray, List.map_cons, List.map_nil]); first | done | rfl | (simp only [List.length_drop, List.length_take]; rfl)) ?_; (with_reducible refine (query_rise.calls _ _ l0_0 true _ ?side1 ?side2 A2.out).mono ?_); (case side1 => repeat (first | exact (Kd.C_below HR0_0.out HB.out) | (with_reducible refine Kd.C_alloc ?_ _) | (with_reducible refine Kd.C_drewN ?_ _) | (with_reducible refine Kd.C_drew ?_))); (case side2 => exact HC0_0.out); rintro e w7 ⟨rfl, hb⟩; refine ⟨_, rfl, ?_⟩; have n0_ := Aside0.mk (blk_below (g := gb110) (o := .cells #[.slice A0_0 l0_0.length c0_0, .slice A0_1 l0_1.length c0_1] 92 (0, 0)) (by (with_reducible repeat (first | refine blk_drewN ?_ _ | refine blk_drew ?_ | refine blk_alloc ?_ _)); exact BK110.out) hb); have n1_ := Aside0.mk (below_step (by repeat (first | (with_reducible first | exact HB.out | apply below_alloc | apply pw_below_drewN | apply below_drew1 | refine below_set ?_ GE110.out) | exact HB.out)) hb); clear BK110; clear HB; have BK110 := n0_; have HB := n1_; clear n0_ n1_; (try clear hb); (try clear hb2); (try clear hk); (try clear hi); have hcz8_0 : w7.cell? ⟨gb110, 0, none⟩ = some (.slice A0_0 l0_0.length c0_0) := (blk_cell BK110.out 0).trans rfl; have hcz8_1 : w7.cell? ⟨gb110, 1, none⟩ = some (.slice A0_1 l0_1.length c0_1) := (blk_cell BK110.out 1).trans rfl; have hfz8_0 := blk_frozen BK110.out 0; have hfz8_1 := blk_frozen BK110.out 1) | (go_at_call 74; (with_reducible refine (query_rise.calls _ _ l0_1 t112 _ ?side1 ?side2 A4.out).mono ?_); (case side1 => repeat (first | exact (Kd.C_below HR0_1.out HB.out) | (with_reducible refine Kd.C_alloc ?_ _) | (with_reducible refine Kd.C_drewN ?_ _) | (with_reducible refine Kd.C_drew ?_))); (case side2 => exact HC0_1.out); rintro e w9 ⟨rfl, hb⟩; have n0_ := Aside0.mk (blk_below (g := gb110) (o := .cells #[.slice A0_0 l0_0.length c0_0, .slice A0_1 l0_1.length c0_1] 92 (0, 0)) (by (with_reducible repeat (first | refine blk_drewN ?_ _ | refine blk_drew ?_ | refine blk_alloc ?_ _)); exact BK110.out) hb); have n1_ := Aside0.mk (below_step (by repeat (first | (with_reducible first | exact HB.out | apply below_alloc | apply pw_below_drewN | apply below_drew1 | refine below_set ?_ GE110.out) | exact HB.out)) hb); clear BK110; clear HB; have BK110 := n0_; have HB := n1_; clear n0_ n1_; (try clear hb); (try clear hb2); (try clear hk); (try clear hi)))
    go_ret
    exact ⟨by first | rfl | (simp [errW_none, errW_some] <;> rfl) | (simp [*, errW_none, errW_some] <;> rfl), by repeat (first | (with_reducible first | exact HB.out | apply below_alloc | apply pw_below_drewN | apply below_drew1 | refine below_set ?_ GE110.out) | exact HB.out)⟩
  · replace c3 := Bool.eq_false_iff.mpr c3
    subst c3
    have H1 : (some true) = some r := by rw [if_neg (show ¬ (false = true) by decide)] at H; exact H
    clear H
    have H := H1
    clear H1
    obtain rfl := Option.some.inj H
    go_enter Try.func73, Try.ntmps73
    go_wp2_with (first | ((with_reducible refine gate_dst (N := 1) rfl ?_); refine box_event ?hg (N := 1) ?hd (cs := #[.slice A0_0 l0_0.length c0_0, .slice A0_1 l0_1.length c0_1]) (t := 92) ?hr ?_; (case hd => rfl); (case hg => rfl); (case hr => first | (go_simp; done) | (go_simp; rfl)); intro gb110 hg w10 hbox hb; have n0_ := Aside0.mk (below_step (by repeat (first | (with_reducible first | exact HB.out | apply below_alloc | apply pw_below_drewN | apply below_drew1) | exact HB.out)) hb); have n1_ := Aside0.mk (hbox); have n2_ := Aside0.mk ((by rw [hg]; exact (below_size (by repeat (first | (with_reducible first | exact HB.out | apply below_alloc | apply pw_below_drewN | apply below_drew1) | exact HB.out))) : w.heap.size ≤ gb110)); have n3_ := Aside0.mk ((by rw [hg]; exact (below_size (by repeat (first | (with_reducible first | exact HB.out | apply below_alloc | apply pw_below_drewN | apply below_drew1) | exact HB.out))) : w.heap.size ≤ gb110)); clear HB; have HB := n0_; have BK110 := n1_; have GW110 := n2_; have GE110 := n3_; clear n0_ n1_ n2_ n3_; clear hb hbox hg; have hcz11_0 : w10.cell? ⟨gb110, 0, none⟩ = some (.slice A0_0 l0_0.length c0_0) := (blk_cell BK110.out 0).trans rfl; have hcz11_1 : w10.cell? ⟨gb110, 1, none⟩ = some (.slice A0_1 l0_1.length c0_1) := (blk_cell BK110.out 1).trans rfl; have hfz11_0 := blk_frozen BK110.out 0; have hfz11_1 := blk_frozen BK110.out 1) | ((with_reducible refine gate_callee (f := 74) rfl ?_); refine goesL_ (some 5) rfl rfl Try.func74 (by kernel_rfl) rfl #[.slice A0_0 l0_0.length c0_0] rfl (by (try simp only [List.map_toArray, List.map_cons, List.map_nil]); first | done | rfl | (simp only [List.length_drop, List.length_take]; rfl)) ?_; (with_reducible refine (query_rise.calls _ _ l0_0 false _ ?side1 ?side2 A2.out).mono ?_); (case side1 => repeat (first | exact (Kd.C_below HR0_0.out HB.out) | (with_reducible refine Kd.C_alloc ?_ _) | (with_reducible refine Kd.C_drewN ?_ _) | (with_reducible refine Kd.C_drew ?_))); (case side2 => exact HC0_0.out); rintro e w12 ⟨rfl, hb⟩; refine ⟨_, rfl, ?_⟩; have n0_ := Aside0.mk (blk_below (g := gb110) (o := .cells #[.slice A0_0 l0_0.length c0_0, .slice A0_1 l0_1.length c0_1] 92 (0, 0)) (by (with_reducible repeat (first | refine blk_drewN ?_ _ | refine blk_drew ?_ | refine blk_alloc ?_ _)); exact BK110.out) hb); have n1_ := Aside0.mk (below_step (by repeat (first | (with_reducible first | exact HB.out | apply below_alloc | apply pw_below_drewN | apply below_drew1 | refine below_set ?_ GE110.out) | exact HB.out)) hb); clear BK110; clear HB; have BK110 := n0_; have HB := n1_; clear n0_ n1_; (try clear hb); (try clear hb2); (try clear hk); (try clear hi)))
    go_ret
    exact ⟨by first | rfl | (simp [errW_none, errW_some] <;> rfl) | (simp [*, errW_none, errW_some] <;> rfl), by repeat (first | (with_reducible first | exact HB.out | apply below_alloc | apply pw_below_drewN | apply below_drew1 | refine below_set ?_ GE110.out) | exact HB.out)⟩

end Go.Proofs.Ytocpcnmnhckcpaa.Prt
namespace Go.Proofs.Ytocpcnmnhckcpaa.Nam
open Go.RowKit Go.Proofs.YtocpcnmnhckcpaaW.PrintWords Go.Proofs.YtocpcnmnhckcpaaW.PrintLast Go.Proofs.YtocpcnmnhckcpaaW.PrintMore Go.Proofs.Ytocpcnmnhckcpaa.Num Go.Proofs.Ytocpcnmnhckcpaa.Prt
set_option linter.unusedVariables false
set_option linter.unusedSimpArgs false

/-- slices.IndexFunc, at a closure. -/
theorem idxStr0 (p : ByteArray → Bool) (G : Nat) (A : Option Addr) (c : Nat) (l : List ByteArray) (w : World) (hC : Kd.C Kd.string w A l.length l)
    (hent : ∀ (xs : Array Value) (W : World), (callFunc G xs).run Try.prog W = .ok (.enter G xs) W)
    (hf : ∀ x ∈ l, ∀ w1, Below w.heap.size w w1 → Calls Try.prog G #[.string x] w1 fun e w2 => e = .returned (.bool (p x)) ∧ Below w1.heap.size w1 w2) :
    Calls Try.prog 83 #[.slice A l.length c, .func (.func G) #[] #[]] w fun e w' => ∃ r : Int, e = .returned (.int .i64 r) ∧ decide (0 ≤ r) = l.any p ∧ Below w.heap.size w w' := by
  have HC := Aside0.mk hC
  have HF := Aside0.mk hf
  have hn := Kd.C_max hC
  clear hC hf
  go_enter Try.func83, Try.ntmps83
  go_wp2
  go_loopg [8] (l.length) (fun k v8 w' => ∃ i : Nat, v8 = .int .i64 (i : Int) ∧ Aside0 (i + k = l.length) ∧ Aside0 ((l.take i).any p = false) ∧ Aside0 (Below w.heap.size w w'))
  case atStart => exact ⟨0, rfl, ⟨by omega⟩, ⟨by simp⟩, ⟨Below.refl _ _⟩⟩
  case round =>
    obtain ⟨i, rfl, HE, HN, HB⟩ := hrel
    by_cases hlt : i < l.length
    · have hb1 : decide ((i : Int) < (l.length : Int)) = true := decide_eq_true (by omega)
      obtain ⟨ad, e_, hx⟩ := Kd.at_string (Kd.C_below HC.out HB.out) (i : Int) (by omega) (by omega)
      cases e_
      rw [Int.toNat_natCast] at hx
      obtain ⟨x, hx0⟩ : ∃ x, x = rdOf ByteArray.empty l (i : Int) := ⟨_, rfl⟩
      rw [← hx0] at hx
      have hxm : x ∈ l := by rw [hx0]; exact getD_mem' hlt _
      have hstep : (l.take (i + 1)).any p = p x := by rw [take_any p l i hlt ByteArray.empty, HN.out, hx0]; rfl
      have HS := Aside0.mk hstep
      have HCALL := Aside0.mk (HF.out x hxm wr HB.out)
      clear hx0 hxm hstep
      cases hp : p x with
      | true =>
        have HP := Aside0.mk hp
        clear hp
        go_wp2_with fail
        refine HCALL.out.mono ?_
        rintro e w2 ⟨rfl, hb2⟩
        rw [HP.out]
        have HB2 := Aside0.mk hb2
        clear hb2
        go_wp2
        go_ret
        refine ⟨_, rfl, ?_, below_step HB.out HB2.out⟩
        rw [any_of_take (HS.out.trans HP.out)]
        exact decide_eq_true (by omega)
      | false =>
        have HP := Aside0.mk hp
        clear hp
        go_wp2_with fail
        refine HCALL.out.mono ?_
        rintro e w2 ⟨rfl, hb2⟩
        rw [HP.out]
        have HB2 := Aside0.mk hb2
        clear hb2
        go_wp2
        go_roundg (l.length - (i + 1))
        case measure => have := HE.out; omega
        case rel => exact ⟨i + 1, by go_num, ⟨by have := HE.out; omega⟩, ⟨HS.out.trans HP.out⟩, ⟨below_step HB.out HB2.out⟩⟩
    · have hb1 : decide ((i : Int) < (l.length : Int)) = false := decide_eq_false (by omega)
      go_wp2
      go_ret
      refine ⟨_, rfl, ?_, HB.out⟩
      have := HN.out
      rw [take_any_all p l i (by omega)] at this
      rw [this]; rfl

theorem contStr0 (p : ByteArray → Bool) (G : Nat) (A : Option Addr) (c : Nat) (l : List ByteArray) (w : World) (hC : Kd.C Kd.string w A l.length l)
    (hent : ∀ (xs : Array Value) (W : World), (callFunc G xs).run Try.prog W = .ok (.enter G xs) W)
    (hf : ∀ x ∈ l, ∀ w1, Below w.heap.size w w1 → Calls Try.prog G #[.string x] w1 fun e w2 => e = .returned (.bool (p x)) ∧ Below w1.heap.size w1 w2) :
    Calls Try.prog 63 #[.slice A l.length c, .func (.func G) #[] #[]] w fun e w' => e = .returned (.bool (l.any p)) ∧ Below w.heap.size w w' := by
  have H := idxStr0 p G  A c l w hC hent hf
  clear hC hent hf
  go_enter Try.func63, Try.ntmps63
  go_wp2_with fail
  refine H.mono ?_
  rintro e w2 ⟨r, rfl, hd, hb⟩
  go_wp2
  go_ret
  exact ⟨by first | rw [hd] | rfl | assumption, hb⟩
/-- slices.IndexFunc, at a closure. -/
theorem idxCla (p : S92 → Bool) (G : Nat) (A : Option Addr) (c : Nat) (l : List S92) (w : World) (hC : Kd.C k92 w A l.length l)
    (hent : ∀ (xs : Array Value) (W : World), (callFunc G xs).run Try.prog W = .ok (.enter G xs) W)
    (hf : ∀ x ∈ l, ∀ w1, Below w.heap.size w w1 → ∀ A0 c0 A1 c1, Kd.C Kd.string w1 A0 x.f0.length x.f0 → x.f0.length ≤ c0 → Kd.C Kd.string w1 A1 x.f1.length x.f1 → x.f1.length ≤ c1 → Calls Try.prog G #[.agg #[.slice A0 x.f0.length c0, .slice A1 x.f1.length c1]] w1 fun e w2 => e = .returned (.bool (p x)) ∧ Below w1.heap.size w1 w2) :
    Calls Try.prog 92 #[.slice A l.length c, .func (.func G) #[] #[]] w fun e w' => ∃ r : Int, e = .returned (.int .i64 r) ∧ decide (0 ≤ r) = l.any p ∧ Below w.heap.size w w' := by
  have HC := Aside0.mk hC
  have HF := Aside0.mk hf
  have hn := Kd.C_max hC
  clear hC hf
  have hu92 := Try.underlying92
  go_enter Try.func92, Try.ntmps92
  go_wp2
  go_loopg [8] (l.length) (fun k v8 w' => ∃ i : Nat, v8 = .int .i64 (i : Int) ∧ Aside0 (i + k = l.length) ∧ Aside0 ((l.take i).any p = false) ∧ Aside0 (Below w.heap.size w w'))
  case atStart => exact ⟨0, rfl, ⟨by omega⟩, ⟨by simp⟩, ⟨Below.refl _ _⟩⟩
  case round =>
    obtain ⟨i, rfl, HE, HN, HB⟩ := hrel
    by_cases hlt : i < l.length
    · have hb1 : decide ((i : Int) < (l.length : Int)) = true := decide_eq_true (by omega)
      obtain ⟨ad, A0, c0, A1, c1, e_, hx, hx1, hl0, hi0, hl1, hi1⟩ := at_T92 (Kd.C_below HC.out HB.out) (i : Int) (by omega) (by omega)
      cases e_
      rw [Int.toNat_natCast] at hx hx1
      obtain ⟨x, hx0⟩ : ∃ x, x = rd_T92 l (i : Int) := ⟨_, rfl⟩
      rw [← hx0] at hx hx1 hl0 hi0 hl1 hi1
      have hxm : x ∈ l := by rw [hx0]; exact getD_mem' hlt _
      have hstep : (l.take (i + 1)).any p = p x := by rw [take_any p l i hlt z92, HN.out, hx0]; rfl
      have HS := Aside0.mk hstep
      have HCALL := Aside0.mk (HF.out x hxm wr HB.out A0 c0 A1 c1 hi0 hl0 hi1 hl1)
      clear hx0 hxm hstep hi0 hl0 hi1 hl1
      cases hp : p x with
      | true =>
        have HP := Aside0.mk hp
        clear hp
        go_wp2_with fail
        refine HCALL.out.mono ?_
        rintro e w2 ⟨rfl, hb2⟩
        rw [HP.out]
        have HB2 := Aside0.mk hb2
        clear hb2
        go_wp2
        go_ret
        refine ⟨_, rfl, ?_, below_step HB.out HB2.out⟩
        rw [any_of_take (HS.out.trans HP.out)]
        exact decide_eq_true (by omega)
      | false =>
        have HP := Aside0.mk hp
        clear hp
        go_wp2_with fail
        refine HCALL.out.mono ?_
        rintro e w2 ⟨rfl, hb2⟩
        rw [HP.out]
        have HB2 := Aside0.mk hb2
        clear hb2
        go_wp2
        go_roundg (l.length - (i + 1))
        case measure => have := HE.out; omega
        case rel => exact ⟨i + 1, by go_num, ⟨by have := HE.out; omega⟩, ⟨HS.out.trans HP.out⟩, ⟨below_step HB.out HB2.out⟩⟩
    · have hb1 : decide ((i : Int) < (l.length : Int)) = false := decide_eq_false (by omega)
      go_wp2
      go_ret
      refine ⟨_, rfl, ?_, HB.out⟩
      have := HN.out
      rw [take_any_all p l i (by omega)] at this
      rw [this]; rfl

theorem contCla (p : S92 → Bool) (G : Nat) (A : Option Addr) (c : Nat) (l : List S92) (w : World) (hC : Kd.C k92 w A l.length l)
    (hent : ∀ (xs : Array Value) (W : World), (callFunc G xs).run Try.prog W = .ok (.enter G xs) W)
    (hf : ∀ x ∈ l, ∀ w1, Below w.heap.size w w1 → ∀ A0 c0 A1 c1, Kd.C Kd.string w1 A0 x.f0.length x.f0 → x.f0.length ≤ c0 → Kd.C Kd.string w1 A1 x.f1.length x.f1 → x.f1.length ≤ c1 → Calls Try.prog G #[.agg #[.slice A0 x.f0.length c0, .slice A1 x.f1.length c1]] w1 fun e w2 => e = .returned (.bool (p x)) ∧ Below w1.heap.size w1 w2) :
    Calls Try.prog 87 #[.slice A l.length c, .func (.func G) #[] #[]] w fun e w' => e = .returned (.bool (l.any p)) ∧ Below w.heap.size w w' := by
  have H := idxCla p G  A c l w hC hent hf
  clear hC hent hf
  go_enter Try.func87, Try.ntmps87
  go_wp2_with fail
  refine H.mono ?_
  rintro e w2 ⟨r, rfl, hd, hb⟩
  go_wp2
  go_ret
  exact ⟨by first | rw [hd] | rfl | assumption, hb⟩
/-- What is asked of a query's clauses. -/
theorem some_calls (p : S92 → Bool) (b : Bool) (G : Nat) (A : Option Addr) (c : Nat) (l : List S92) (w : World) (hp : l.any p = b) (hC : Kd.C k92 w A l.length l)
    (hent : ∀ (xs : Array Value) (W : World), (callFunc G xs).run Try.prog W = .ok (.enter G xs) W)
    (hf : ∀ x ∈ l, ∀ w1, Below w.heap.size w w1 → ∀ A0 c0 A1 c1, Kd.C Kd.string w1 A0 x.f0.length x.f0 → x.f0.length ≤ c0 → Kd.C Kd.string w1 A1 x.f1.length x.f1 → x.f1.length ≤ c1 → Calls Try.prog G #[.agg #[.slice A0 x.f0.length c0, .slice A1 x.f1.length c1]] w1 fun e w2 => e = .returned (.bool (p x)) ∧ Below w1.heap.size w1 w2) :
    Calls Try.prog 72 #[.agg #[.slice A l.length c], .func (.func G) #[] #[]] w fun e w' => e = .returned (.bool b) ∧ Below w.heap.size w w' := by
  subst hp
  have hu34 := Try.underlying34
  have HB := Aside0.mk (Below.refl w.heap.size w)
  have HC := Aside0.mk hC
  have HF := Aside0.mk hf
  clear hC hf
  go_enter Try.func72, Try.ntmps72
  go_wp2_with (first | ((with_reducible refine gate_dst (N := 2) rfl ?_); (try (refine gate_guard (by rfl) ?_; dsimp only)); refine box_event ?hg (N := 2) ?hd (cs := #[.slice A l.length c]) (t := 34) ?hr ?_; (case hd => rfl); (case hg => rfl); (case hr => first | (go_simp; done) | (go_simp; rfl)); intro g hg_ w2 hbox_ hb_; have HBX := Aside0.mk hbox_; have HBN := Aside0.mk hg_; have HBB := Aside0.mk hb_; clear hbox_ hg_ hb_; have hc0 := blk_cell HBX.out 0; have hf0 := blk_frozen HBX.out 0))
  refine (contCla p G A c l w2 (Kd.C_below HC.out HBB.out) hent (fun x hx w1 hb => HF.out x hx w1 (below_step HBB.out hb))).mono ?_
  rintro e w3 ⟨rfl, hb⟩
  have HB3 := Aside0.mk (below_step HBB.out hb)
  clear hb
  go_wp2
  go_ret
  exact ⟨rfl, HB3.out⟩
def bigC (x : S92) : Bool := decide (4 < x.f0.length) || decide (4 < x.f1.length)
def noneC (x : S92) : Bool := (x.f0.any fun s => !tagB s) || (x.f1.any fun s => !mayL (bytesOf s))
def downC (x : S92) : Bool := !riseB x.f0 || !riseB x.f1
/-- What is wrong with a query. -/
def mayQ (l : List S92) : Int := if 4 < l.length ∨ l.any bigC = true then 3 else if l.any noneC = true then 5 else if l.any downC = true then 1 else 0
theorem big_val (x : S92) : query_May_1.f x.f0 x.f1 = some (bigC x) := by
  unfold query_May_1.f bigC
  by_cases h : (x.f0.length : Int) > 4
  · rw [if_pos h, decide_eq_true (show 4 < x.f0.length by omega), Bool.true_or]
  · rw [if_neg h, decide_eq_false (show ¬ 4 < x.f0.length by omega), Bool.false_or]
    congr 1; rw [Bool.eq_iff_iff, decide_eq_true_iff, decide_eq_true_iff]; omega
theorem down_val (x : S92) (h : bigC x = false) : query_May_3.f x.f0 x.f1 = some (downC x) := by
  unfold bigC at h
  rw [Bool.or_eq_false_iff, decide_eq_false_iff_not, decide_eq_false_iff_not] at h
  have m1 : query_rise.f x.f0 = some (riseB x.f0) := if_pos (by omega)
  have m2 : query_rise.f x.f1 = some (riseB x.f1) := if_pos (by omega)
  unfold query_May_3.f downC
  rw [m1, m2]
  simp only [Option.bind_some]
  cases riseB x.f0 <;> rfl
def fitC (x : S92) : Bool := (x.f0.all fun s => decide (s.size ≤ 9223372036854775807)) && (x.f1.all fun s => decide (s.size ≤ 9223372036854775807))
theorem fitC_iff {x : S92} : fitC x = true ↔ (∀ s ∈ x.f0, s.size ≤ 9223372036854775807) ∧ (∀ s ∈ x.f1, s.size ≤ 9223372036854775807) := by
  unfold fitC; simp only [Bool.and_eq_true, List.all_eq_true, decide_eq_true_eq]
theorem none_calls (x : S92) (A0 : Option Addr) (c0 : Nat) (A1 : Option Addr) (c1 : Nat) (w : World) (h0 : Kd.C Kd.string w A0 x.f0.length x.f0) (h1 : Kd.C Kd.string w A1 x.f1.length x.f1) (hf : fitC x = true) :
    Calls Try.prog 69 #[.agg #[.slice A0 x.f0.length c0, .slice A1 x.f1.length c1]] w fun e w' => e = .returned (.bool (noneC x)) ∧ Below w.heap.size w w' := by
  obtain ⟨hz0, hz1⟩ := fitC_iff.1 hf
  have hu92 := Try.underlying92
  have H0 := Aside0.mk h0
  have H1 := Aside0.mk h1
  have Z0 := Aside0.mk hz0
  have Z1 := Aside0.mk hz1
  obtain ⟨b, hb0⟩ : ∃ b, b = noneC x := ⟨_, rfl⟩
  rw [← hb0]
  have HB0 := Aside0.mk hb0
  clear h0 h1 hz0 hz1 hb0 hf
  go_enter Try.func69, Try.ntmps69
  go_wp2_with (first | ((with_reducible refine gate_dst (N := 1) rfl ?_); (try (refine gate_guard (by rfl) ?_; dsimp only)); refine box_event ?hg (N := 1) ?hd (cs := #[.slice A0 x.f0.length c0, .slice A1 x.f1.length c1]) (t := 92) ?hr ?_; (case hd => rfl); (case hg => rfl); (case hr => first | (go_simp; done) | (go_simp; rfl)); intro g hg_ w2 hbox_ hb_; have HBX := Aside0.mk hbox_; have HBN := Aside0.mk hg_; have HBB := Aside0.mk hb_; clear hbox_ hg_ hb_; have hc0 := blk_cell HBX.out 0; have hf0 := blk_frozen HBX.out 0; have hc1 := blk_cell HBX.out 1; have hf1 := blk_frozen HBX.out 1))
  refine (contStr0 (fun s => !tagB s) 70 A0 c0 x.f0 w2 (Kd.C_below H0.out HBB.out) (enters_of Try.func70 (by kernel_rfl) rfl) (fun s hs w1 _ => query_May_2_1.calls s (!tagB s) w1 (by
    have m : name_MayTag.f s = some (tagB s) := if_pos (Z0.out s hs)
    unfold query_May_2_1.f
    rw [m]; rfl))).mono ?_
  rintro e w3 ⟨rfl, hb⟩
  have n1_ := Aside0.mk (blk_below HBX.out hb)
  have n2_ := Aside0.mk (below_step HBB.out hb)
  clear HBX HBB hb hc0 hc1 hf0 hf1
  have hc1 := blk_cell n1_.out 1
  cases h2 : (x.f0.any fun s => !tagB s) with
  | true =>
    have HR := Aside0.mk (show b = true by rw [HB0.out]; unfold noneC; rw [h2]; rfl)
    clear h2
    go_wp2_with fail
    go_ret
    exact ⟨by rw [HR.out]; rfl, n2_.out⟩
  | false =>
    have HR := Aside0.mk (show b = (x.f1.any fun s => !mayL (bytesOf s)) by rw [HB0.out]; unfold noneC; rw [h2]; rfl)
    clear h2
    go_wp2_with fail
    refine (contStr0 (fun s => !mayL (bytesOf s)) 71 A1 c1 x.f1 w3 (Kd.C_below H1.out n2_.out) (enters_of Try.func71 (by kernel_rfl) rfl) (fun s hs w1 _ => query_May_2_2.calls s (!mayL (bytesOf s)) w1 (by
      have m : name_May.f s = some (mayL (bytesOf s)) := if_pos (Z1.out s hs)
      unfold query_May_2_2.f
      rw [m]; rfl))).mono ?_
    rintro e w4 ⟨rfl, hb⟩
    have n3_ := Aside0.mk (below_step n2_.out hb)
    rw [← HR.out]
    clear hb hc1
    go_wp2_with fail
    go_ret
    exact ⟨rfl, n3_.out⟩
theorem queryMay_calls (A : Option Addr) (c : Nat) (l : List S92) (w : World) (hr : Kd.C k92 w A l.length l) (hc : l.length ≤ c) (hf : ∀ x ∈ l, fitC x = true) :
    Calls Try.prog 46 #[.agg #[.slice A l.length c]] w fun e w' => e = .returned (.int .i64 (mayQ l)) ∧ Below w.heap.size w w' := by
  have hu34 := Try.underlying34
  have HR := Aside0.mk hr
  have HF := Aside0.mk hf
  have hm := Kd.C_max hr
  clear hr hc hf
  obtain ⟨E, hE⟩ : ∃ E, E = mayQ l := ⟨_, rfl⟩
  rw [← hE]
  have HE := Aside0.mk hE
  clear hE
  go_enter Try.func46, Try.ntmps46
  by_cases h4 : 4 < l.length
  · have d1 : decide ((4 : Int) < (l.length : Int)) = true := decide_eq_true (by omega)
    have HG := Aside0.mk (HE.out.trans (if_pos (.inl h4)))
    go_wp2_with (first | ((with_reducible refine gate_dst (N := 1) rfl ?_); (try (refine gate_guard (by rfl) ?_; dsimp only)); refine box_event ?hg (N := 1) ?hd (cs := #[.slice A l.length c]) (t := 34) ?hr ?_; (case hd => rfl); (case hg => rfl); (case hr => first | (go_simp; done) | (go_simp; rfl)); intro g hg_ w2 hbox_ hb_; have HBX := Aside0.mk hbox_; have HBN := Aside0.mk hg_; have HBB := Aside0.mk hb_; clear hbox_ hg_ hb_; have hc0 := blk_cell HBX.out 0; have hf0 := blk_frozen HBX.out 0))
    go_ret
    exact ⟨ret_i64 HG.out.symm, HBB.out⟩
  have d1 : decide ((4 : Int) < (l.length : Int)) = false := decide_eq_false (by omega)
  go_wp2_with (first | ((with_reducible refine gate_dst (N := 1) rfl ?_); (try (refine gate_guard (by rfl) ?_; dsimp only)); refine box_event ?hg (N := 1) ?hd (cs := #[.slice A l.length c]) (t := 34) ?hr ?_; (case hd => rfl); (case hg => rfl); (case hr => first | (go_simp; done) | (go_simp; rfl)); intro g hg_ w2 hbox_ hb_; have HBX := Aside0.mk hbox_; have HBN := Aside0.mk hg_; have HBB := Aside0.mk hb_; clear hbox_ hg_ hb_; have hc0 := blk_cell HBX.out 0; have hf0 := blk_frozen HBX.out 0))
  cases h1 : l.any bigC with
  | true =>
    have HG := Aside0.mk (HE.out.trans (if_pos (.inr h1)))
    refine (some_calls bigC true 68 A c l w2 h1 (Kd.C_below HR.out HBB.out) (enters_of Try.func68 (by kernel_rfl) rfl) (fun x hx w1 _ A0 c0 A1 c1 g0 g1 g2 g3 => query_May_1.calls A0 c0 x.f0 A1 c1 x.f1 (bigC x) w1 g0 g1 g2 g3 (big_val x))).mono ?_
    rintro e w3 ⟨rfl, hb⟩
    have n2_ := Aside0.mk (below_step HBB.out hb)
    clear hb h1
    go_wp2_with fail
    go_ret
    exact ⟨ret_i64 HG.out.symm, n2_.out⟩
  | false =>
  have HE2 := Aside0.mk (HE.out.trans (if_neg (by rw [h1]; simp only [Bool.false_eq_true, or_false]; exact h4)))
  have HBIG : Aside0 (∀ x ∈ l, bigC x = false) := ⟨fun x hx => by have := List.any_eq_false.1 h1 x hx; simpa using this⟩
  refine (some_calls bigC false 68 A c l w2 h1 (Kd.C_below HR.out HBB.out) (enters_of Try.func68 (by kernel_rfl) rfl) (fun x hx w1 _ A0 c0 A1 c1 g0 g1 g2 g3 => query_May_1.calls A0 c0 x.f0 A1 c1 x.f1 (bigC x) w1 g0 g1 g2 g3 (big_val x))).mono ?_
  rintro e w3 ⟨rfl, hb⟩
  have n1_ := Aside0.mk (blk_below HBX.out hb)
  have n2_ := Aside0.mk (below_step HBB.out hb)
  clear HBX HBB hb hc0 hf0 h1 HE
  have HBX := n1_
  have HB := n2_
  clear n1_ n2_
  have hc0 := blk_cell HBX.out 0
  go_wp2_with fail
  cases h2 : l.any noneC with
  | true =>
    have HG := Aside0.mk (HE2.out.trans (if_pos h2))
    refine (some_calls noneC true 69 A c l w3 h2 (Kd.C_below HR.out HB.out) (enters_of Try.func69 (by kernel_rfl) rfl) (fun x hx w1 _ A0 c0 A1 c1 g0 g1 g2 g3 => none_calls x A0 c0 A1 c1 w1 g0 g2 (HF.out x hx))).mono ?_
    rintro e w4 ⟨rfl, hb⟩
    have n2_ := Aside0.mk (below_step HB.out hb)
    clear hb h2
    go_wp2_with fail
    go_ret
    exact ⟨ret_i64 HG.out.symm, n2_.out⟩
  | false =>
  have HE3 := Aside0.mk (HE2.out.trans (if_neg (by rw [h2]; simp)))
  refine (some_calls noneC false 69 A c l w3 h2 (Kd.C_below HR.out HB.out) (enters_of Try.func69 (by kernel_rfl) rfl) (fun x hx w1 _ A0 c0 A1 c1 g0 g1 g2 g3 => none_calls x A0 c0 A1 c1 w1 g0 g2 (HF.out x hx))).mono ?_
  rintro e w4 ⟨rfl, hb⟩
  have n1_ := Aside0.mk (blk_below HBX.out hb)
  have n2_ := Aside0.mk (below_step HB.out hb)
  clear HBX HB hb hc0 h2 HE2
  have HBX := n1_
  have HB := n2_
  clear n1_ n2_
  have hc0 := blk_cell HBX.out 0
  go_wp2_with fail
  cases h3 : l.any downC with
  | true =>
    have HG := Aside0.mk (HE3.out.trans (if_pos h3))
    refine (some_calls downC true 73 A c l w4 h3 (Kd.C_below HR.out HB.out) (enters_of Try.func73 (by kernel_rfl) rfl) (fun x hx w1 _ A0 c0 A1 c1 g0 g1 g2 g3 => query_May_3.calls A0 c0 x.f0 A1 c1 x.f1 (downC x) w1 g0 g1 g2 g3 (down_val x (HBIG.out x hx)))).mono ?_
    rintro e w5 ⟨rfl, hb⟩
    have n2_ := Aside0.mk (below_step HB.out hb)
    clear hb h3
    go_wp2_with fail
    go_ret
    exact ⟨ret_i64 HG.out.symm, n2_.out⟩
  | false =>
    have HG := Aside0.mk (HE3.out.trans (if_neg (by rw [h3]; simp)))
    refine (some_calls downC false 73 A c l w4 h3 (Kd.C_below HR.out HB.out) (enters_of Try.func73 (by kernel_rfl) rfl) (fun x hx w1 _ A0 c0 A1 c1 g0 g1 g2 g3 => query_May_3.calls A0 c0 x.f0 A1 c1 x.f1 (downC x) w1 g0 g1 g2 g3 (down_val x (HBIG.out x hx)))).mono ?_
    rintro e w5 ⟨rfl, hb⟩
    have n2_ := Aside0.mk (below_step HB.out hb)
    clear hb h3
    go_wp2_with fail
    go_ret
    exact ⟨ret_i64 HG.out.symm, n2_.out⟩
end Go.Proofs.Ytocpcnmnhckcpaa.Nam
namespace Go.Proofs.Ytocpcnmnhckcpaa.Prt
open Go.RowKit Go.Proofs.YtocpcnmnhckcpaaW.PrintWords Go.Proofs.YtocpcnmnhckcpaaW.PrintLast Go.Proofs.YtocpcnmnhckcpaaW.PrintMore Go.Proofs.Ytocpcnmnhckcpaa.Num Go.Proofs.Ytocpcnmnhckcpaa.Nam
set_option linter.unusedVariables false
set_option linter.unusedSimpArgs false
def query_May.f (l0_0 : List S92) : Option (Int) := if l0_0.all fitC = true then some (mayQ l0_0) else none
theorem query_May.calls (A0_0 : Option Addr) (c0_0 : Nat) (l0_0 : List (S92)) (r : Int) (w : World) (hr0_0 : Kd.C k92 w A0_0 l0_0.length l0_0) (hc0_0 : l0_0.length ≤ c0_0) (h : query_May.f l0_0 = some r) :
    Calls Try.prog 46 #[.agg #[.slice A0_0 l0_0.length c0_0]] w fun e w' => e = .returned (.int .i64 r) ∧ Below w.heap.size w w' := by
  unfold query_May.f at h
  by_cases hc : l0_0.all fitC = true
  · rw [if_pos hc] at h
    obtain rfl := Option.some.inj h
    exact queryMay_calls A0_0 c0_0 l0_0 w hr0_0 hc0_0 (List.all_eq_true.1 hc)
  · rw [if_neg hc] at h; cases h
end Go.Proofs.Ytocpcnmnhckcpaa.Prt
namespace Go.Proofs.Ytocpcnmnhckcpaa.Nam
open Go.RowKit Go.Proofs.YtocpcnmnhckcpaaW.PrintWords Go.Proofs.YtocpcnmnhckcpaaW.PrintLast Go.Proofs.YtocpcnmnhckcpaaW.PrintMore Go.Proofs.Ytocpcnmnhckcpaa.Num Go.Proofs.Ytocpcnmnhckcpaa.Prt
set_option linter.unusedVariables false
set_option linter.unusedSimpArgs false

set_option maxRecDepth 100000 in
/-- qcode.list: as many as there are, each by a function. -/
theorem listStr (f : ByteArray → List Int) (G : Nat) (A0 : Option Addr) (c0 : Nat) (l0 : List Int) (A : Option Addr) (c : Nat) (l : List ByteArray) (w : World) (hr0 : Kd.C (Kd.int .u8) w A0 l0.length l0) (hc0 : l0.length ≤ c0) (hC : Kd.C Kd.string w A l.length l) (hb : l0.length + ((enc (l.length : Int)).length + (l.flatMap f).length) ≤ 1000000000000)
    (hent : ∀ (xs : Array Value) (W : World), (callFunc G xs).run Try.prog W = .ok (.enter G xs) W)
    (hf : ∀ x ∈ l, ∀ w1, Below w.heap.size w w1 → ∀ A' c' l', Kd.C (Kd.int .u8) w1 A' l'.length l' → l'.length ≤ c' → l'.length + (f x).length ≤ 1000000000000 → Calls Try.prog G #[.slice A' l'.length c', .string x] w1 fun e w2 => ∃ v, e = .returned v ∧ Kd.R (Kd.int .u8) 5 w2 w1.heap.size (fun _ => True) v (l' ++ f x) ∧ Below w1.heap.size w1 w2) :
    Calls Try.prog 77 #[.slice A0 l0.length c0, .slice A l.length c, .func (.func G) #[] #[]] w fun e w' => ∃ v, e = .returned v ∧ Kd.R (Kd.int .u8) 5 w' w.heap.size (fun _ => True) v (l0 ++ (enc (l.length : Int) ++ l.flatMap f)) ∧ Below w.heap.size w w' := by
  have hm := Kd.C_max hC
  have HC := Aside0.mk hC
  have HF := Aside0.mk hf
  have HP := Aside0.mk (num_Put.calls A0 c0 l0 (l.length : Int) (l0 ++ enc (l.length : Int)) w hr0 hc0 (if_pos ⟨by omega, by omega, by omega⟩))
  have HBD := Aside0.mk hb
  clear hr0 hc0 hC hb hf
  go_enter Try.func77, Try.ntmps77
  go_wp2_with fail
  refine HP.out.mono ?_
  rintro e w1 ⟨v1, rfl, ho, hb⟩
  have HO1 := Aside0.mk (show Kd.R (Kd.int .u8) 5 w1 w.heap.size (fun _ => True) v1 (l0 ++ (enc (l.length : Int) ++ (l.take 0).flatMap f)) by rw [List.take_zero, List.flatMap_nil, List.append_nil]; exact ho)
  have HB1 := Aside0.mk hb
  clear ho hb HP
  go_wp2_with fail
  go_loopg [7, 16] (l.length + 1) (fun k v7 v16 w' => ∃ i : Nat, v16 = .int .i64 (i : Int) ∧ Aside0 (i + k = l.length + 1) ∧ Aside0 (Kd.R (Kd.int .u8) 5 w' w.heap.size (fun _ => True) v7 (l0 ++ (enc (l.length : Int) ++ (l.take i).flatMap f))) ∧ Aside0 (Below w.heap.size w w'))
  case atStart => exact ⟨0, rfl, ⟨by omega⟩, HO1, HB1⟩
  case round =>
    clear HO1 HB1
    obtain ⟨i, rfl, HI, HO, HB⟩ := hrel
    obtain ⟨A7, c7, e7⟩ := Kd.R_slice HO.out
    subst e7
    by_cases hi : i < l.length
    · have d1 : decide ((i : Int) < (l.length : Int)) = true := decide_eq_true (by omega)
      obtain ⟨ad, e_, hx⟩ := Kd.at_string (Kd.C_below HC.out HB.out) (i : Int) (by omega) (by omega)
      cases e_
      rw [Int.toNat_natCast] at hx
      obtain ⟨x, hx0⟩ : ∃ x, x = rdOf ByteArray.empty l (i : Int) := ⟨_, rfl⟩
      rw [← hx0] at hx
      have hxm : x ∈ l := by rw [hx0]; exact getD_mem' hi _
      have hxs : (l.take (i + 1)).flatMap f = (l.take i).flatMap f ++ f x := by
        rw [List.take_succ_eq_append_getElem hi, List.flatMap_append]
        congr 1
        rw [hx0]
        unfold rdOf
        rw [Int.toNat_natCast, List.getD_eq_getElem?_getD, List.getElem?_eq_getElem hi]; simp
      have hbx : (l0 ++ (enc (l.length : Int) ++ (l.take i).flatMap f)).length + (f x).length ≤ 1000000000000 := by
        have h1 : l.flatMap f = (l.take (i + 1)).flatMap f ++ (l.drop (i + 1)).flatMap f := by rw [← List.flatMap_append, List.take_append_drop]
        have h2 := congrArg List.length h1
        rw [hxs] at h2
        simp only [List.length_append] at h2 ⊢
        have := HBD.out
        omega
      have HXS := Aside0.mk hxs
      have HXM := Aside0.mk hxm
      have HBX := Aside0.mk hbx
      have HIL := Aside0.mk hi
      clear hx0 hxm hxs hbx
      obtain ⟨-, hc7, hC7⟩ := Kd.R_reads' HO.out
      obtain ⟨lx, hlx⟩ : ∃ lx, lx = l0 ++ (enc (l.length : Int) ++ (l.take i).flatMap f) := ⟨_, rfl⟩
      rw [← hlx] at HO HBX hc7 hC7
      have HLX := Aside0.mk hlx
      have HC7 := Aside0.mk hC7
      have HK7 := Aside0.mk hc7
      rw [← hlx]
      clear hlx hC7 hc7
      go_wp2_with fail
      refine (HF.out x HXM.out _ HB.out A7 c7 lx HC7.out HK7.out HBX.out).mono ?_
      rintro e w4 ⟨v4, rfl, ho, hb⟩
      have HB4 := Aside0.mk (below_step HB.out hb)
      have HO4 := Aside0.mk (Kd.R_lower ho HB.out.size)
      clear ho hb
      go_wp2_with fail
      go_roundg (l.length - i)
      case measure => have := HI.out; omega
      case rel => exact ⟨i + 1, by go_num, ⟨by have := HI.out; omega⟩, ⟨by have h := HO4.out; rw [HLX.out, List.append_assoc, List.append_assoc, ← HXS.out] at h; exact h⟩, HB4⟩
    · have d1 : decide ((i : Int) < (l.length : Int)) = false := decide_eq_false (by omega)
      have HT := Aside0.mk (show l.take i = l from List.take_of_length_le (by omega))
      go_wp2_with fail
      go_ret
      exact ⟨_, rfl, by have h := HO.out; rw [HT.out] at h ⊢; exact h, HB.out⟩

end Go.Proofs.Ytocpcnmnhckcpaa.Nam
namespace Go.Proofs.Ytocpcnmnhckcpaa.Nam
open Go.RowKit Go.Proofs.YtocpcnmnhckcpaaW.PrintWords Go.Proofs.YtocpcnmnhckcpaaW.PrintLast Go.Proofs.YtocpcnmnhckcpaaW.PrintMore Go.Proofs.Ytocpcnmnhckcpaa.Num Go.Proofs.Ytocpcnmnhckcpaa.Prt
set_option linter.unusedVariables false
set_option linter.unusedSimpArgs false

theorem R_setB {α : Type} {d : Kd α} {e N t E : Nat} {w : World} {v : Value} {l : List α} {cells : Array Value} (h : Kd.R d e w N (fun _ => True) v l) (hb : w.heap[E]? = some (.cells cells t (0, 0))) (ht : ∀ q, q ∈ e :: d.E → q ≠ t) (i : Nat) (u : Value) : Kd.R d e (w.setCell ⟨E, i, none⟩ u) N (fun _ => True) v l :=
  Kd.R_mono (Kd.R_far (p := ⟨E, i, none⟩) (Kd.R_types h hb ht) (fun k hk => hk.2) u) (fun _ _ => trivial)
theorem R_setB2 {α : Type} {d : Kd α} {e N t E : Nat} {w : World} {v : Value} {l : List α} {cells : Array Value} (h : Kd.R d e w N (fun _ => True) v l) (hb : w.heap[E]? = some (.cells cells t (0, 0))) (ht : ∀ q, q ∈ e :: d.E → q ≠ t) (u0 u1 : Value) : Kd.R d e ((w.setCell ⟨E, 0, none⟩ u0).setCell ⟨E, 1, none⟩ u1) N (fun _ => True) v l :=
  R_setB (R_setB h hb ht 0 u0) (blk_set hb 0 u0) ht 1 u1
set_option maxRecDepth 100000 in
/-- qcode.list: as many as there are, each by a function. -/
theorem listCla (f : S92 → List Int) (G : Nat) (A0 : Option Addr) (c0 : Nat) (l0 : List Int) (A : Option Addr) (c : Nat) (l : List S92) (w : World) (hr0 : Kd.C (Kd.int .u8) w A0 l0.length l0) (hc0 : l0.length ≤ c0) (hC : Kd.C k92 w A l.length l) (hb : l0.length + ((enc (l.length : Int)).length + (l.flatMap f).length) ≤ 1000000000000)
    (hent : ∀ (xs : Array Value) (W : World), (callFunc G xs).run Try.prog W = .ok (.enter G xs) W)
    (hf : ∀ x ∈ l, ∀ w1, Below w.heap.size w w1 → ∀ A' c' l', Kd.C (Kd.int .u8) w1 A' l'.length l' → l'.length ≤ c' → l'.length + (f x).length ≤ 1000000000000 → ∀ P0 q0 P1 q1, Kd.C Kd.string w1 P0 x.f0.length x.f0 → x.f0.length ≤ q0 → Kd.C Kd.string w1 P1 x.f1.length x.f1 → x.f1.length ≤ q1 → Calls Try.prog G #[.slice A' l'.length c', .agg #[.slice P0 x.f0.length q0, .slice P1 x.f1.length q1]] w1 fun e w2 => ∃ v, e = .returned v ∧ Kd.R (Kd.int .u8) 5 w2 w1.heap.size (fun _ => True) v (l' ++ f x) ∧ Below w1.heap.size w1 w2) :
    Calls Try.prog 75 #[.slice A0 l0.length c0, .slice A l.length c, .func (.func G) #[] #[]] w fun e w' => ∃ v, e = .returned v ∧ Kd.R (Kd.int .u8) 5 w' w.heap.size (fun _ => True) v (l0 ++ (enc (l.length : Int) ++ l.flatMap f)) ∧ Below w.heap.size w w' := by
  have hm := Kd.C_max hC
  have HC := Aside0.mk hC
  have HF := Aside0.mk hf
  have HP := Aside0.mk (num_Put.calls A0 c0 l0 (l.length : Int) (l0 ++ enc (l.length : Int)) w hr0 hc0 (if_pos ⟨by omega, by omega, by omega⟩))
  have HBD := Aside0.mk hb
  clear hr0 hc0 hC hb hf
  have hu92 := Try.underlying92
  go_enter Try.func75, Try.ntmps75
  go_wp2_with fail
  refine HP.out.mono ?_
  rintro e w1 ⟨v1, rfl, ho, hb⟩
  have HO1 := Aside0.mk (show Kd.R (Kd.int .u8) 5 w1 w.heap.size (fun _ => True) v1 (l0 ++ (enc (l.length : Int) ++ (l.take 0).flatMap f)) by rw [List.take_zero, List.flatMap_nil, List.append_nil]; exact ho)
  have HB1 := Aside0.mk hb
  clear ho hb HP
  go_wp2_with fail
  go_loopg [7, 16] (l.length + 1) (fun k v7 v16 w' => ∃ i : Nat, v16 = .int .i64 (i : Int) ∧ Aside0 (i + k = l.length + 1) ∧ Aside0 (Kd.R (Kd.int .u8) 5 w' w.heap.size (fun _ => True) v7 (l0 ++ (enc (l.length : Int) ++ (l.take i).flatMap f))) ∧ Aside0 (Below w.heap.size w w'))
  case atStart => exact ⟨0, rfl, ⟨by omega⟩, HO1, HB1⟩
  case round =>
    clear HO1 HB1
    obtain ⟨i, rfl, HI, HO, HB⟩ := hrel
    obtain ⟨A7, c7, e7⟩ := Kd.R_slice HO.out
    subst e7
    by_cases hi : i < l.length
    · have d1 : decide ((i : Int) < (l.length : Int)) = true := decide_eq_true (by omega)
      obtain ⟨ad, P0, q0, P1, q1, e_, hx, hx1, hl0, hi0, hl1, hi1⟩ := at_T92 (Kd.C_below HC.out HB.out) (i : Int) (by omega) (by omega)
      cases e_
      rw [Int.toNat_natCast] at hx hx1
      obtain ⟨x, hx0⟩ : ∃ x, x = rd_T92 l (i : Int) := ⟨_, rfl⟩
      rw [← hx0] at hx hx1 hl0 hi0 hl1 hi1
      have hxm : x ∈ l := by rw [hx0]; exact getD_mem' hi _
      have hxs : (l.take (i + 1)).flatMap f = (l.take i).flatMap f ++ f x := by
        rw [List.take_succ_eq_append_getElem hi, List.flatMap_append]
        congr 1
        rw [hx0]
        unfold rd_T92
        rw [Int.toNat_natCast, List.getD_eq_getElem?_getD, List.getElem?_eq_getElem hi]; simp
      have hbx : (l0 ++ (enc (l.length : Int) ++ (l.take i).flatMap f)).length + (f x).length ≤ 1000000000000 := by
        have h1 : l.flatMap f = (l.take (i + 1)).flatMap f ++ (l.drop (i + 1)).flatMap f := by rw [← List.flatMap_append, List.take_append_drop]
        have h2 := congrArg List.length h1
        rw [hxs] at h2
        simp only [List.length_append] at h2 ⊢
        have := HBD.out
        omega
      have HXS := Aside0.mk hxs
      have HXM := Aside0.mk hxm
      have HBX := Aside0.mk hbx
      have HIL := Aside0.mk hi
      clear hx0 hxm hxs hbx
      obtain ⟨-, hc7, hC7⟩ := Kd.R_reads' HO.out
      obtain ⟨lx, hlx⟩ : ∃ lx, lx = l0 ++ (enc (l.length : Int) ++ (l.take i).flatMap f) := ⟨_, rfl⟩
      rw [← hlx] at HO HBX hc7 hC7
      have HLX := Aside0.mk hlx
      have HC7 := Aside0.mk hC7
      have HK7 := Aside0.mk hc7
      rw [← hlx]
      clear hlx hC7 hc7
      have HI0 := Aside0.mk hi0
      have HI1 := Aside0.mk hi1
      have HL0 := Aside0.mk hl0
      have HL1 := Aside0.mk hl1
      clear hi0 hi1 hl0 hl1
      go_upto_region 5 with (first | ((with_reducible refine gate_dst (N := 9) rfl ?_); (try (refine gate_guard (by rfl) ?_; dsimp only)); refine box_event ?hg (N := 9) ?hd (cs := #[.slice none 0 0, .slice none 0 0]) (t := 92) ?hr ?_; (case hd => rfl); (case hg => rfl); (case hr => first | (go_simp; done) | (go_simp; rfl)); intro B hg_ w2 hbox_ hb_; have HBE := Aside0.mk hbox_; have HBM := Aside0.mk hg_; have HBD := Aside0.mk hb_; clear hbox_ hg_ hb_; have hq0 := blk_cell HBE.out 0; have hz0 := blk_frozen HBE.out 0; have hq1 := blk_cell HBE.out 1; have hz1 := blk_frozen HBE.out 1))
      have HGB := Aside0.mk (show w.heap.size ≤ B ∧ wr.heap.size ≤ B from ⟨by rw [HBM.out]; exact HB.out.size, by rw [HBM.out]; exact Nat.le_refl _⟩)
      have n1_ := Aside0.mk (R_setB2 (Kd.R_below HO.out HBD.out) HBE.out (by decide) (.slice P0 x.f0.length q0) (.slice P1 x.f1.length q1))
      have n2_ := Aside0.mk (((below_step HB.out HBD.out).setCell (p := ⟨B, 0, none⟩) HGB.out.1 (.slice P0 x.f0.length q0)).setCell (p := ⟨B, 1, none⟩) HGB.out.1 (.slice P1 x.f1.length q1))
      have n3_ := Aside0.mk ((HBD.out.setCell (p := ⟨B, 0, none⟩) HGB.out.2 (.slice P0 x.f0.length q0)).setCell (p := ⟨B, 1, none⟩) HGB.out.2 (.slice P1 x.f1.length q1))
      have n4_ := Aside0.mk (blk_put (cs' := #[.slice P0 x.f0.length q0, .slice P1 x.f1.length q1]) (blk_put (cs' := #[.slice P0 x.f0.length q0, .slice none 0 0]) HBE.out 0 (.slice P0 x.f0.length q0) rfl) 1 (.slice P1 x.f1.length q1) rfl)
      clear HBE HBD hq0 hq1 hz0 hz1 hx hx1 HO
      generalize (w2.setCell ⟨B, 0, none⟩ (.slice P0 x.f0.length q0)).setCell ⟨B, 1, none⟩ (.slice P1 x.f1.length q1) = w3 at n1_ n2_ n3_ n4_ ⊢
      have HB' := HB
      clear HB
      have HB := n2_
      have HO := n1_
      have hq0 := blk_cell n4_.out 0
      have hq1 := blk_cell n4_.out 1
      obtain ⟨-, hc7, hC7⟩ := Kd.R_reads' HO.out
      clear HC7 HK7
      have HC7 := Aside0.mk hC7
      have HK7 := Aside0.mk hc7
      clear hc7 hC7
      go_wp2_with fail
      refine (HF.out x HXM.out _ HB.out A7 c7 lx HC7.out HK7.out HBX.out P0 q0 P1 q1 (Kd.C_below HI0.out n3_.out) HL0.out (Kd.C_below HI1.out n3_.out) HL1.out).mono ?_
      rintro e w4 ⟨v4, rfl, ho, hb⟩
      have HB4 := Aside0.mk (below_step HB.out hb)
      have HO4 := Aside0.mk (Kd.R_lower ho HB.out.size)
      clear ho hb
      go_wp2_with fail
      go_roundg (l.length - i)
      case measure => have := HI.out; omega
      case rel => exact ⟨i + 1, by go_num, ⟨by have := HI.out; omega⟩, ⟨by have h := HO4.out; rw [HLX.out, List.append_assoc, List.append_assoc, ← HXS.out] at h; exact h⟩, HB4⟩
    · have d1 : decide ((i : Int) < (l.length : Int)) = false := decide_eq_false (by omega)
      have HT := Aside0.mk (show l.take i = l from List.take_of_length_le (by omega))
      go_wp2_with fail
      go_ret
      exact ⟨_, rfl, by have h := HO.out; rw [HT.out] at h ⊢; exact h, HB.out⟩

end Go.Proofs.Ytocpcnmnhckcpaa.Nam
namespace Go.Proofs.Ytocpcnmnhckcpaa.Nam
open Go.RowKit Go.Proofs.YtocpcnmnhckcpaaW.PrintWords Go.Proofs.YtocpcnmnhckcpaaW.PrintLast Go.Proofs.YtocpcnmnhckcpaaW.PrintMore Go.Proofs.Ytocpcnmnhckcpaa.Num Go.Proofs.Ytocpcnmnhckcpaa.Prt
set_option linter.unusedVariables false
set_option linter.unusedSimpArgs false

/-- Texts as bytes, with their number. -/
def encL (l : List ByteArray) : List Int := enc (l.length : Int) ++ encTs l
/-- A clause as bytes. -/
def encC (x : S92) : List Int := encL x.f0 ++ encL x.f1
/-- A query as bytes. -/
def encQ (l : List S92) : List Int := enc (l.length : Int) ++ l.flatMap encC
theorem encT_ge (s : ByteArray) : s.size ≤ (encT (bytesOf s)).length := by
  unfold encT
  rw [List.length_append, bytes_length]; omega
theorem strs_calls (A0 : Option Addr) (c0 : Nat) (l0 : List Int) (A : Option Addr) (c : Nat) (l : List ByteArray) (w : World) (hr0 : Kd.C (Kd.int .u8) w A0 l0.length l0) (hc0 : l0.length ≤ c0) (hC : Kd.C Kd.string w A l.length l) (hb : l0.length + (encL l).length ≤ 1000000000000) :
    Calls Try.prog 77 #[.slice A0 l0.length c0, .slice A l.length c, .func (.func 24) #[] #[]] w fun e w' => ∃ v, e = .returned v ∧ Kd.R (Kd.int .u8) 5 w' w.heap.size (fun _ => True) v (l0 ++ encL l) ∧ Below w.heap.size w w' :=
  listStr (fun s => encT (bytesOf s)) 24 A0 c0 l0 A c l w hr0 hc0 hC (by unfold encL encTs at hb; rw [List.length_append] at hb; exact hb) (enters_of Try.func24 (by kernel_rfl) rfl)
    (fun x hx w1 _ A' c' l' h1 h2 h3 => num_PutText.calls A' c' l' x (l' ++ encT (bytesOf x)) w1 h1 h2 (if_pos (by have := encT_ge x; omega)))
def D76.T1 : Bool × List (List Nat × List Nat) := (true, [([], []), ([], []), ([1], [1]), ([0, 2], [0, 2]), ([], []), ([4], [4]), ([3, 5, 3], [3, 5]), ([6, 6, 0, 1, 2, 3, 4, 5, 6], [6])])
def D76.B1 : List Nat := [0, 0, 2, 7, 0, 16, 63, 127]
theorem D76.tab1 : rtab .any (opsOf Try.f76 1) = D76.T1 := by kernel_rfl
theorem D76.bits1 : waitsOk D76.T1.2 D76.B1 = true := by kernel_rfl
theorem put1_calls (A0 : Option Addr) (c0 : Nat) (l0 : List Int) (P0 : Option Addr) (q0 : Nat) (P1 : Option Addr) (q1 : Nat) (x : S92) (w : World) (hr0 : Kd.C (Kd.int .u8) w A0 l0.length l0) (hc0 : l0.length ≤ c0) (h0 : Kd.C Kd.string w P0 x.f0.length x.f0) (h1 : Kd.C Kd.string w P1 x.f1.length x.f1) (hb : l0.length + (encC x).length ≤ 1000000000000) :
    Calls Try.prog 76 #[.slice A0 l0.length c0, .agg #[.slice P0 x.f0.length q0, .slice P1 x.f1.length q1]] w fun e w' => ∃ v, e = .returned v ∧ Kd.R (Kd.int .u8) 5 w' w.heap.size (fun _ => True) v (l0 ++ encC x) ∧ Below w.heap.size w w' := by
  have hu92 := Try.underlying92
  have HR := Aside0.mk hr0
  have HK := Aside0.mk hc0
  have H0 := Aside0.mk h0
  have H1 := Aside0.mk h1
  have HL1 := Aside0.mk (show l0.length + (encL x.f0).length ≤ 1000000000000 by unfold encC at hb; rw [List.length_append] at hb; omega)
  have HL2 := Aside0.mk (show (l0 ++ encL x.f0).length + (encL x.f1).length ≤ 1000000000000 by unfold encC at hb; rw [List.length_append] at hb ⊢; omega)
  clear hr0 hc0 h0 h1 hb
  go_enter Try.func76, Try.ntmps76
  go_upto_region 1 with (first | ((with_reducible refine gate_dst (N := 3) rfl ?_); (try (refine gate_guard (by rfl) ?_; dsimp only)); refine box_event ?hg (N := 3) ?hd (cs := #[.slice P0 x.f0.length q0, .slice P1 x.f1.length q1]) (t := 92) ?hr ?_; (case hd => rfl); (case hg => rfl); (case hr => first | (go_simp; done) | (go_simp; rfl)); intro g hg_ w2 hbox_ hb_; have HBX := Aside0.mk hbox_; have HBN := Aside0.mk hg_; have HBB := Aside0.mk hb_; clear hbox_ hg_ hb_))
  go_wp2_with fail
  have n1_ := Aside0.mk (blk_drew HBX.out)
  have n2_ := Aside0.mk (below_drew1 HBB.out)
  clear HBX HBB
  have HX := n1_
  have HB := n2_
  clear n1_ n2_
  refine start_ (n := 8) (S := fun w' => w'.cell? ⟨g, 0, none⟩ = some (.slice P0 x.f0.length q0) ∧ w'.cell? ⟨g, 1, none⟩ = some (.slice P1 x.f1.length q1)) (ds := []) #[false, false, false, false, false, false, false, false] (by kernel_rfl) rfl rfl ⟨(blk_cell HX.out 0).trans rfl, (blk_cell HX.out 1).trans rfl⟩ (fun hHeld => ?_); refine with_tabW D76.tab1 D76.bits1 (fun HT_ HW_ => ?_)
  generalize World.drew _ = w3 at HX HB hHeld ⊢
  refine pure_ (i := 0) (N := some 5) (v := ?_) (a' := ?_) #[true, false, false, false, false, false, false, false] rfl rfl (any_of HT_.out (by kernel_rfl)) (fun _ _ _ h => h) (Or.inl ⟨by rfl, ?_⟩) ?_ ?_
  rotate_left
  · intro w'
    go_simp
    with_reducible rfl
  rotate_left
  · simp only [Act.put, List.setIfInBounds_toArray, List.set_cons_zero, List.set_cons_succ, i64_w, i32_w]
    rfl
  refine pure_ (i := 1) (N := some 6) (v := ?_) (a' := ?_) #[true, true, false, false, false, false, false, false] rfl rfl (any_of HT_.out (by kernel_rfl)) (fun _ _ _ h => h) (Or.inl ⟨by rfl, ?_⟩) ?_ ?_
  rotate_left
  · intro w'
    go_simp
    with_reducible rfl
  rotate_left
  · simp only [Act.put, List.setIfInBounds_toArray, List.set_cons_zero, List.set_cons_succ, i64_w, i32_w]
    rfl
  refine take_ (i := 2) (N := some 7) (v := ?_) (a' := ?_) #[true, true, true, false, false, false, false, false] rfl rfl (take_ofW HT_.out HW_.out (by kernel_rfl)) (fun _ _ _ h => h) (Or.inl ⟨by rfl, ?_⟩) hHeld ?_ ?_
  rotate_left
  · rintro w' ⟨s0, s1⟩
    go_simp
    with_reducible rfl
  rotate_left
  · simp only [Act.put, List.setIfInBounds_toArray, List.set_cons_zero, List.set_cons_succ, i64_w, i32_w]
    rfl
  refine pure_ (i := 4) (N := some 9) (v := ?_) (a' := ?_) #[true, true, true, false, true, false, false, false] rfl rfl (any_of HT_.out (by kernel_rfl)) (fun _ _ _ h => h) (Or.inl ⟨by rfl, ?_⟩) ?_ ?_
  rotate_left
  · intro w'
    go_simp
    with_reducible rfl
  rotate_left
  · simp only [Act.put, List.setIfInBounds_toArray, List.set_cons_zero, List.set_cons_succ, i64_w, i32_w]
    rfl
  refine take_ (i := 5) (N := some 10) (v := ?_) (a' := ?_) #[true, true, true, false, true, true, false, false] rfl rfl (take_ofW HT_.out HW_.out (by kernel_rfl)) (fun _ _ _ h => h) (Or.inl ⟨by rfl, ?_⟩) hHeld ?_ ?_
  rotate_left
  · rintro w' ⟨s0, s1⟩
    go_simp
    with_reducible rfl
  rotate_left
  · simp only [Act.put, List.setIfInBounds_toArray, List.set_cons_zero, List.set_cons_succ, i64_w, i32_w]
    rfl
  refine one_ (i := 3) (N := some 8) #[true, true, true, true, true, true, false, false] rfl rfl (one_of HT_.out (by kernel_rfl)) (by decide) (fun K hK => ?_)
  refine goes_ Try.func77 (by kernel_rfl) rfl #[.slice A0 l0.length c0, .slice P0 x.f0.length q0, .func (.func 24) #[] #[]] (by rfl) rfl rfl (by (try simp only [List.map_toArray, List.map_cons, List.map_nil]); first | done | rfl) ?_
  with_reducible refine (strs_calls A0 c0 l0 P0 q0 x.f0 w3 (Kd.C_below HR.out HB.out) HK.out (Kd.C_below H0.out HB.out) HL1.out).mono ?_
  rintro e w4 ⟨v4, rfl, ho, hb⟩
  refine ⟨_, rfl, ?_⟩
  obtain ⟨A4, c4, e4⟩ := Kd.R_slice ho
  subst e4
  obtain ⟨-, hc4, hC4⟩ := Kd.R_reads' ho
  have HC4 := Aside0.mk hC4
  have HK4 := Aside0.mk hc4
  have n1_ := Aside0.mk (blk_below HX.out hb)
  have n2_ := Aside0.mk (below_step HB.out hb)
  clear HX HB ho hb hc4 hC4
  have HX := n1_
  have HB := n2_
  clear n1_ n2_
  refine hK.out _ _ ⟨(blk_cell HX.out 0).trans rfl, (blk_cell HX.out 1).trans rfl⟩ (fun hHeld => ?_)
  clear hK K
  refine norm_ (a' := ?_) ?_ ?_
  rotate_left
  · show Act.put _ (some 8) _ = _
    simp only [Act.put, List.setIfInBounds_toArray, List.set_cons_zero, List.set_cons_succ, i64_w, i32_w]
    rfl
  refine one_ (i := 6) (N := some 11) #[true, true, true, true, true, true, true, false] rfl rfl (one_of HT_.out (by kernel_rfl)) (by decide) (fun K hK => ?_)
  refine goes_ Try.func77 (by kernel_rfl) rfl #[.slice A4 (l0 ++ encL x.f0).length c4, .slice P1 x.f1.length q1, .func (.func 24) #[] #[]] (by rfl) rfl rfl (by (try simp only [List.map_toArray, List.map_cons, List.map_nil]); first | done | rfl) ?_
  with_reducible refine (strs_calls A4 c4 (l0 ++ encL x.f0) P1 q1 x.f1 w4 HC4.out HK4.out (Kd.C_below H1.out HB.out) HL2.out).mono ?_
  rintro e w5 ⟨v5, rfl, ho, hb⟩
  refine ⟨_, rfl, ?_⟩
  have HO5 := Aside0.mk (Kd.R_lower ho HB.out.size)
  have n1_ := Aside0.mk (blk_below HX.out hb)
  have n2_ := Aside0.mk (below_step HB.out hb)
  clear HX HB ho hb
  have HX := n1_
  have HB := n2_
  clear n1_ n2_
  refine hK.out _ _ ⟨(blk_cell HX.out 0).trans rfl, (blk_cell HX.out 1).trans rfl⟩ (fun hHeld => ?_)
  clear hK K
  refine norm_ (a' := ?_) ?_ ?_
  rotate_left
  · show Act.put _ (some 11) _ = _
    simp only [Act.put, List.setIfInBounds_toArray, List.set_cons_zero, List.set_cons_succ, i64_w, i32_w]
    rfl
  refine pure_ (i := 7) (N := some 4) (v := ?_) (a' := ?_) #[true, true, true, true, true, true, true, true] rfl rfl (any_of HT_.out (by kernel_rfl)) (fun _ _ _ h => h) (Or.inl ⟨by rfl, ?_⟩) ?_ ?_
  rotate_left
  · intro w'
    go_simp
    with_reducible rfl
  rotate_left
  · simp only [Act.put, List.setIfInBounds_toArray, List.set_cons_zero, List.set_cons_succ, i64_w, i32_w]
    rfl
  refine done_ (by kernel_rfl) ?_
  clear HT_ HW_ hHeld
  go_wp2_with fail
  go_ret
  exact ⟨_, rfl, by have h := HO5.out; rw [List.append_assoc] at h; exact h, HB.out⟩
theorem put_calls7 (A0 : Option Addr) (c0 : Nat) (l0 : List Int) (A : Option Addr) (c : Nat) (l : List S92) (w : World) (hr0 : Kd.C (Kd.int .u8) w A0 l0.length l0) (hc0 : l0.length ≤ c0) (hC : Kd.C k92 w A l.length l) (hb : l0.length + (encQ l).length ≤ 1000000000000) :
    Calls Try.prog 47 #[.slice A0 l0.length c0, .agg #[.slice A l.length c]] w fun e w' => ∃ v, e = .returned v ∧ Kd.R (Kd.int .u8) 5 w' w.heap.size (fun _ => True) v (l0 ++ encQ l) ∧ Below w.heap.size w w' := by
  have hu34 := Try.underlying34
  have HR := Aside0.mk hr0
  have HK := Aside0.mk hc0
  have HC := Aside0.mk hC
  have HL := Aside0.mk (show l0.length + ((enc (l.length : Int)).length + (l.flatMap encC).length) ≤ 1000000000000 by unfold encQ at hb; rw [List.length_append] at hb; exact hb)
  clear hr0 hc0 hC hb
  go_enter Try.func47, Try.ntmps47
  go_wp2_with (first | ((with_reducible refine gate_dst (N := 3) rfl ?_); (try (refine gate_guard (by rfl) ?_; dsimp only)); refine box_event ?hg (N := 3) ?hd (cs := #[.slice A l.length c]) (t := 34) ?hr ?_; (case hd => rfl); (case hg => rfl); (case hr => first | (go_simp; done) | (go_simp; rfl)); intro g hg_ w2 hbox_ hb_; have HBX := Aside0.mk hbox_; have HBN := Aside0.mk hg_; have HBB := Aside0.mk hb_; clear hbox_ hg_ hb_; have hc0 := blk_cell HBX.out 0; have hf0 := blk_frozen HBX.out 0))
  refine (listCla encC 76 A0 c0 l0 A c l w2 (Kd.C_below HR.out HBB.out) HK.out (Kd.C_below HC.out HBB.out) HL.out (enters_of Try.func76 (by kernel_rfl) rfl) (fun x hx w1 _ A' c' l' h1 h2 h3 P0 q0 P1 q1 g0 _ g1 _ => put1_calls A' c' l' P0 q0 P1 q1 x w1 h1 h2 g0 g1 h3)).mono ?_
  rintro e w3 ⟨v, rfl, ho, hb⟩
  have HO := Aside0.mk (Kd.R_lower ho HBB.out.size)
  have HB := Aside0.mk (below_step HBB.out hb)
  clear ho hb
  go_wp2_with fail
  go_ret
  exact ⟨_, rfl, HO.out, HB.out⟩
end Go.Proofs.Ytocpcnmnhckcpaa.Nam
namespace Go.Proofs.Ytocpcnmnhckcpaa.Prt
open Go.RowKit Go.Proofs.YtocpcnmnhckcpaaW.PrintWords Go.Proofs.YtocpcnmnhckcpaaW.PrintLast Go.Proofs.YtocpcnmnhckcpaaW.PrintMore Go.Proofs.Ytocpcnmnhckcpaa.Num Go.Proofs.Ytocpcnmnhckcpaa.Nam
set_option linter.unusedVariables false
set_option linter.unusedSimpArgs false
def qcode_put.f (l0 : List Int) (l1_0 : List S92) : Option (List Int) := if l0.length + (encQ l1_0).length ≤ 1000000000000 then some (l0 ++ encQ l1_0) else none
theorem qcode_put.calls (A0 : Option Addr) (c0 : Nat) (l0 : List Int) (A1_0 : Option Addr) (c1_0 : Nat) (l1_0 : List (S92)) (r : List Int) (w : World) (hr0 : Kd.C (Kd.int .u8) w A0 l0.length l0) (hc0 : l0.length ≤ c0) (hr1_0 : Kd.C k92 w A1_0 l1_0.length l1_0) (hc1_0 : l1_0.length ≤ c1_0) (h : qcode_put.f l0 l1_0 = some r) :
    Calls Try.prog 47 #[.slice A0 l0.length c0, .agg #[.slice A1_0 l1_0.length c1_0]] w fun e w' => ∃ v0_ : Value, e = .returned (v0_) ∧ Kd.R (Kd.int .u8) 5 w' w.heap.size (fun _ => True) v0_ r ∧ Below w.heap.size w w' := by
  unfold qcode_put.f at h
  by_cases hc : l0.length + (encQ l1_0).length ≤ 1000000000000
  · rw [if_pos hc] at h
    obtain rfl := Option.some.inj h
    exact put_calls7 A0 c0 l0 A1_0 c1_0 l1_0 w hr0 hc0 hr1_0 hc
  · rw [if_neg hc] at h; cases h
end Go.Proofs.Ytocpcnmnhckcpaa.Prt
namespace Go.Proofs.Ytocpcnmnhckcpaa.Prt
open Go.RowKit Go.Proofs.YtocpcnmnhckcpaaW.PrintWords Go.Proofs.YtocpcnmnhckcpaaW.PrintLast Go.Proofs.YtocpcnmnhckcpaaW.PrintMore Go.Proofs.Ytocpcnmnhckcpaa.Num Go.Proofs.Ytocpcnmnhckcpaa.Nam
set_option linter.unusedVariables false
set_option linter.unusedSimpArgs false

/-- What a clause is in which nothing is wrong. -/
structure OkC (x : S92) : Prop where
  h0 : x.f0.length ≤ 4
  h1 : x.f1.length ≤ 4
  ht : ∀ s ∈ x.f0, tagB s = true
  hn : ∀ s ∈ x.f1, mayL (bytesOf s) = true
  r0 : riseB x.f0 = true
  r1 : riseB x.f1 = true
/-- What a query is in which nothing is wrong. -/
structure OkQ (l : List S92) : Prop where
  h4 : l.length ≤ 4
  hc : ∀ x ∈ l, OkC x
theorem any_no {α : Type} {p : α → Bool} {l : List α} (h : ¬ (l.any p = true)) : ∀ x ∈ l, p x = false := fun x hx => by
  cases hp : p x with
  | false => rfl
  | true => exact absurd (List.any_eq_true.2 ⟨x, hx, hp⟩) h
theorem mayQ_zero {l : List S92} : mayQ l = 0 ↔ OkQ l := by
  unfold mayQ
  constructor
  · intro h
    by_cases c1 : 4 < l.length ∨ l.any bigC = true
    · rw [if_pos c1] at h; cases h
    rw [if_neg c1] at h
    by_cases c2 : l.any noneC = true
    · rw [if_pos c2] at h; cases h
    rw [if_neg c2] at h
    by_cases c3 : l.any downC = true
    · rw [if_pos c3] at h; cases h
    rw [not_or] at c1
    refine ⟨by omega, fun x hx => ?_⟩
    have b1 := any_no c1.2 x hx
    have b2 := any_no c2 x hx
    have b3 := any_no c3 x hx
    unfold bigC at b1
    unfold noneC at b2
    unfold downC at b3
    rw [Bool.or_eq_false_iff] at b1 b2 b3
    rw [decide_eq_false_iff_not, decide_eq_false_iff_not] at b1
    refine ⟨by omega, by omega, fun s hs => ?_, fun s hs => ?_, by simpa using b3.1, by simpa using b3.2⟩
    · have := List.any_eq_false.1 b2.1 s hs; simpa using this
    · have := List.any_eq_false.1 b2.2 s hs; simpa using this
  · rintro ⟨h4, hc⟩
    rw [if_neg ?_, if_neg ?_, if_neg ?_]
    · intro c
      obtain ⟨x, hx, h⟩ := List.any_eq_true.1 c
      unfold downC at h
      rw [(hc x hx).r0, (hc x hx).r1] at h; cases h
    · intro c
      obtain ⟨x, hx, h⟩ := List.any_eq_true.1 c
      unfold noneC at h
      rw [Bool.or_eq_true] at h
      rcases h with h | h
      · obtain ⟨s, hs, h⟩ := List.any_eq_true.1 h
        rw [(hc x hx).ht s hs] at h; cases h
      · obtain ⟨s, hs, h⟩ := List.any_eq_true.1 h
        rw [(hc x hx).hn s hs] at h; cases h
    · rintro (c | c)
      · omega
      · obtain ⟨x, hx, h⟩ := List.any_eq_true.1 c
        unfold bigC at h
        have h0 := (hc x hx).h0
        have h1 := (hc x hx).h1
        rw [decide_eq_false (by omega), decide_eq_false (by omega)] at h; cases h
theorem OkC.fit {x : S92} (h : OkC x) : fitC x = true := fitC_iff.2 ⟨fun s hs => by have := tag_size (h.ht s hs); omega, fun s hs => by have := may_size (h.hn s hs); omega⟩
theorem OkQ.fit {l : List S92} (h : OkQ l) : l.all fitC = true := List.all_eq_true.2 fun x hx => (h.hc x hx).fit
theorem encL_size (l : List ByteArray) (h4 : l.length ≤ 4) (hs : ∀ s ∈ l, s.size ≤ 49) : (encL l).length ≤ 246 := by
  have h1 : ∀ l : List ByteArray, (∀ s ∈ l, s.size ≤ 49) → (encTs l).length ≤ 59 * l.length := by
    intro l
    induction l with
    | nil => intro _; simp [encTs]
    | cons x r ih =>
      intro hs
      have e : encTs (x :: r) = encT (bytesOf x) ++ encTs r := by unfold encTs; rw [List.flatMap_cons]
      have g1 := hs x (by simp)
      have g2 := encT_len x (by omega)
      have g3 := ih (fun z hz => hs z (by simp [hz]))
      rw [e, List.length_append, List.length_cons]; omega
  have h2 := h1 l hs
  have h3 := enc_len (x := (l.length : Int)) ⟨by omega, by omega⟩
  unfold encL
  rw [List.length_append]; omega
theorem encC_size {x : S92} (h : OkC x) : (encC x).length ≤ 492 := by
  have h1 := encL_size x.f0 h.h0 (fun s hs => tag_size (h.ht s hs))
  have h2 := encL_size x.f1 h.h1 (fun s hs => by have := may_size (h.hn s hs); omega)
  unfold encC
  rw [List.length_append]; omega
theorem flat_size {α : Type} {f : α → List Int} {n : Nat} : ∀ l : List α, (∀ x ∈ l, (f x).length ≤ n) → (l.flatMap f).length ≤ n * l.length
  | [], _ => by simp
  | x :: r, h => by
    have h1 := h x (by simp)
    have h2 := flat_size r (fun z hz => h z (by simp [hz]))
    rw [List.flatMap_cons, List.length_append, List.length_cons, Nat.mul_add]; omega
theorem encQ_size {l : List S92} (h : OkQ l) : (encQ l).length ≤ 2000 := by
  have h4 := h.h4
  have h1 := flat_size (f := encC) l (fun x hx => encC_size (h.hc x hx))
  have h3 := enc_len (x := (l.length : Int)) ⟨by omega, by omega⟩
  unfold encQ
  rw [List.length_append]; omega
theorem empty_size {s : ByteArray} (h : s.toList = []) : s.size = 0 := by
  have h2 : s.toList.length = s.size := by rw [Lib.toList_data]; rfl
  rw [h] at h2; exact h2.symm
end Go.Proofs.Ytocpcnmnhckcpaa.Prt
namespace Go.Proofs.Ytocpcnmnhckcpaa.Prt
open Go.RowKit Go.Proofs.YtocpcnmnhckcpaaW.PrintWords Go.Proofs.YtocpcnmnhckcpaaW.PrintLast Go.Proofs.YtocpcnmnhckcpaaW.PrintMore
attribute [local go_sem] max2_int min2_int max_two min_two max_three min_three max_four min_four   -- for this text's walks alone
set_option linter.unusedVariables false
set_option linter.unusedSimpArgs false

def qcode_Put.f (l0 : List Int) (l1_0 : List (S92)) : Option (List Int × Int) := (query_May.f l1_0).bind fun t147 => (if t147 = 0 then ((qcode_put.f l0 l1_0).bind fun t148 => (some (t148, 0))) else (some (([] : List Int), t147)))
set_option maxHeartbeats 8000000 in
set_option maxRecDepth 100000 in
theorem qcode_Put.calls (A0 : Option Addr) (c0 : Nat) (l0 : List Int) (A1_0 : Option Addr) (c1_0 : Nat) (l1_0 : List (S92)) (r1 : List Int) (r2 : Int) (w : World) (hr0 : Kd.C (Kd.int .u8) w A0 l0.length l0) (hc0 : l0.length ≤ c0) (hr1_0 : Kd.C k92 w A1_0 l1_0.length l1_0) (hc1_0 : l1_0.length ≤ c1_0) (h : qcode_Put.f l0 l1_0 = some (r1, r2)) :
    Calls Try.prog 28 #[.slice A0 l0.length c0, .agg #[.slice A1_0 l1_0.length c1_0]] w fun e w' => ∃ v0_ : Value, e = .returned (.tuple #[v0_, .int .i64 r2]) ∧ Kd.R (Kd.int .u8) 5 w' w.heap.size (fun _ => True) v0_ r1 ∧ Below w.heap.size w w' := by
  have hu34 := Try.underlying34
  have HR0 := Aside0.mk hr0
  have HC0 := Aside0.mk hc0
  clear hr0 hc0
  have HR1_0 := Aside0.mk hr1_0
  have HC1_0 := Aside0.mk hc1_0
  clear hr1_0 hc1_0
  have HB := Aside0.mk (Below.refl w.heap.size w)
  have H : ((query_May.f l1_0).bind fun t147 => (if t147 = 0 then ((qcode_put.f l0 l1_0).bind fun t148 => (some (t148, 0))) else (some (([] : List Int), t147)))) = some (r1, r2) := h
  clear h
  replace H := Option.bind_eq_some_iff.mp H
  obtain ⟨t147, A30, H⟩ := H
  replace H : (if t147 = 0 then ((qcode_put.f l0 l1_0).bind fun t148 => (some (t148, 0))) else (some (([] : List Int), t147))) = some (r1, r2) := H
  have A3 := Aside0.mk A30
  clear A30
  by_cases c4 : t147 = 0
  · rw [if_pos c4] at H
    have c4b0 : (t147 == 0) = true := beq_iff_eq.mpr c4
    have c4b1 : (t147 != 0) = false := bne_eq_false_iff_eq.mpr c4
    clear c4
    replace H := Option.bind_eq_some_iff.mp H
    obtain ⟨t148, A50, H⟩ := H
    replace H : (some (t148, 0)) = some (r1, r2) := H
    have A5 := Aside0.mk A50
    clear A50
    simp only [Option.some.injEq, Prod.mk.injEq] at H
    obtain ⟨rfl, rfl⟩ := H
    go_enter Try.func28, Try.ntmps28
    go_wp2_with (first | ((with_reducible refine gate_dst (N := 3) rfl ?_); refine box_event ?hg (N := 3) ?hd (cs := #[.slice A1_0 l1_0.length c1_0]) (t := 34) ?hr ?_; (case hd => rfl); (case hg => rfl); (case hr => first | (go_simp; done) | (go_simp; rfl)); intro gb146 hg w6 hbox hb; have n0_ := Aside0.mk (below_step (by repeat (first | (with_reducible first | exact HB.out | apply below_alloc | apply pw_below_drewN | apply below_drew1) | exact HB.out)) hb); have n1_ := Aside0.mk (hbox); have n2_ := Aside0.mk ((by rw [hg]; exact (below_size (by repeat (first | (with_reducible first | exact HB.out | apply below_alloc | apply pw_below_drewN | apply below_drew1) | exact HB.out))) : w.heap.size ≤ gb146)); have n3_ := Aside0.mk ((by rw [hg]; exact (below_size (by repeat (first | (with_reducible first | exact HB.out | apply below_alloc | apply pw_below_drewN | apply below_drew1) | exact HB.out))) : w.heap.size ≤ gb146)); clear HB; have HB := n0_; have BK146 := n1_; have GW146 := n2_; have GE146 := n3_; clear n0_ n1_ n2_ n3_; clear hb hbox hg; have hcz7_0 : w6.cell? ⟨gb146, 0, none⟩ = some (.slice A1_0 l1_0.length c1_0) := (blk_cell BK146.out 0).trans rfl; have hfz7_0 := blk_frozen BK146.out 0) | ((with_reducible refine gate_callee (f := 46) rfl ?_); refine goesL_ (some 8) rfl rfl Try.func46 (by kernel_rfl) rfl #[.agg #[.slice A1_0 l1_0.length c1_0]] rfl (by (try simp only [List.map_toArray, List.map_cons, List.map_nil]); first | done | rfl | (simp only [List.length_drop, List.length_take]; rfl)) ?_; (with_reducible refine (query_May.calls _ _ l1_0 t147 _ ?side1 ?side2 A3.out).mono ?_); (case side1 => repeat (first | exact (Kd.C_below HR1_0.out HB.out) | (with_reducible refine Kd.C_alloc ?_ _) | (with_reducible refine Kd.C_drewN ?_ _) | (with_reducible refine Kd.C_drew ?_))); (case side2 => exact HC1_0.out); rintro e w8 ⟨rfl, hb⟩; refine ⟨_, rfl, ?_⟩; have n0_ := Aside0.mk (blk_below (g := gb146) (o := .cells #[.slice A1_0 l1_0.length c1_0] 34 (0, 0)) (by (with_reducible repeat (first | refine blk_drewN ?_ _ | refine blk_drew ?_ | refine blk_alloc ?_ _)); exact BK146.out) hb); have n1_ := Aside0.mk (below_step (by repeat (first | (with_reducible first | exact HB.out | apply below_alloc | apply pw_below_drewN | apply below_drew1 | refine below_set ?_ GE146.out) | exact HB.out)) hb); clear BK146; clear HB; have BK146 := n0_; have HB := n1_; clear n0_ n1_; (try clear hb); (try clear hb2); (try clear hk); (try clear hi); have hcz9_0 : w8.cell? ⟨gb146, 0, none⟩ = some (.slice A1_0 l1_0.length c1_0) := (blk_cell BK146.out 0).trans rfl; have hfz9_0 := blk_frozen BK146.out 0) | ((with_reducible refine gate_callee (f := 47) rfl ?_); refine goesL_ (some 14) rfl rfl Try.func47 (by kernel_rfl) rfl #[.slice A0 l0.length c0, .agg #[.slice A1_0 l1_0.length c1_0]] rfl (by (try simp only [List.map_toArray, List.map_cons, List.map_nil]); first | done | rfl | (simp only [List.length_drop, List.length_take]; rfl)) ?_; (with_reducible refine (qcode_put.calls _ _ l0 _ _ l1_0 t148 _ ?side1 ?side2 ?side3 ?side4 A5.out).mono ?_); (case side1 => repeat (first | exact (Kd.C_below HR0.out HB.out) | (with_reducible refine Kd.C_alloc ?_ _) | (with_reducible refine Kd.C_drewN ?_ _) | (with_reducible refine Kd.C_drew ?_))); (case side2 => exact HC0.out); (case side3 => repeat (first | exact (Kd.C_below HR1_0.out HB.out) | (with_reducible refine Kd.C_alloc ?_ _) | (with_reducible refine Kd.C_drewN ?_ _) | (with_reducible refine Kd.C_drew ?_))); (case side4 => exact HC1_0.out); rintro e w10 ⟨v149, rfl, ho0, hb⟩; refine ⟨_, rfl, ?_⟩; have n0_ := Aside0.mk (Kd.R_lower ho0 (below_size (by repeat (first | (with_reducible first | exact HB.out | apply below_alloc | apply pw_below_drewN | apply below_drew1 | refine below_set ?_ GE146.out) | exact HB.out)))); have n1_ := Aside0.mk (blk_below (g := gb146) (o := .cells #[.slice A1_0 l1_0.length c1_0] 34 (0, 0)) (by (with_reducible repeat (first | refine blk_drewN ?_ _ | refine blk_drew ?_ | refine blk_alloc ?_ _)); exact BK146.out) hb); have n2_ := Aside0.mk (below_step (by repeat (first | (with_reducible first | exact HB.out | apply below_alloc | apply pw_below_drewN | apply below_drew1 | refine below_set ?_ GE146.out) | exact HB.out)) hb); clear BK146; clear HB; have HO150 := n0_; have BK146 := n1_; have HB := n2_; clear n0_ n1_ n2_; (try clear hb); (try clear hb2); (try clear hk); (try clear hi); (try clear ho0)))
    go_ret2
    exact ⟨_, by first | rfl | (simp [errW_none, errW_some] <;> rfl) | (simp [*, errW_none, errW_some] <;> rfl), by (with_reducible repeat (first | apply Kd.R_alloc | apply Kd.R_drewN | apply Kd.R_drew)); exact HO150.out, by repeat (first | (with_reducible first | exact HB.out | apply below_alloc | apply pw_below_drewN | apply below_drew1 | refine below_set ?_ GE146.out) | exact HB.out)⟩
  · rw [if_neg c4] at H
    have c4b0 : (t147 == 0) = false := beq_eq_false_iff_ne.mpr c4
    have c4b1 : (t147 != 0) = true := bne_iff_ne.mpr c4
    simp only [Option.some.injEq, Prod.mk.injEq] at H
    obtain ⟨rfl, rfl⟩ := H
    go_enter Try.func28, Try.ntmps28
    go_wp2_with (first | ((with_reducible refine gate_dst (N := 3) rfl ?_); refine box_event ?hg (N := 3) ?hd (cs := #[.slice A1_0 l1_0.length c1_0]) (t := 34) ?hr ?_; (case hd => rfl); (case hg => rfl); (case hr => first | (go_simp; done) | (go_simp; rfl)); intro gb146 hg w11 hbox hb; have n0_ := Aside0.mk (below_step (by repeat (first | (with_reducible first | exact HB.out | apply below_alloc | apply pw_below_drewN | apply below_drew1) | exact HB.out)) hb); have n1_ := Aside0.mk (hbox); have n2_ := Aside0.mk ((by rw [hg]; exact (below_size (by repeat (first | (with_reducible first | exact HB.out | apply below_alloc | apply pw_below_drewN | apply below_drew1) | exact HB.out))) : w.heap.size ≤ gb146)); have n3_ := Aside0.mk ((by rw [hg]; exact (below_size (by repeat (first | (with_reducible first | exact HB.out | apply below_alloc | apply pw_below_drewN | apply below_drew1) | exact HB.out))) : w.heap.size ≤ gb146)); clear HB; have HB := n0_; have BK146 := n1_; have GW146 := n2_; have GE146 := n3_; clear n0_ n1_ n2_ n3_; clear hb hbox hg; have hcz12_0 : w11.cell? ⟨gb146, 0, none⟩ = some (.slice A1_0 l1_0.length c1_0) := (blk_cell BK146.out 0).trans rfl; have hfz12_0 := blk_frozen BK146.out 0) | ((with_reducible refine gate_callee (f := 46) rfl ?_); refine goesL_ (some 8) rfl rfl Try.func46 (by kernel_rfl) rfl #[.agg #[.slice A1_0 l1_0.length c1_0]] rfl (by (try simp only [List.map_toArray, List.map_cons, List.map_nil]); first | done | rfl | (simp only [List.length_drop, List.length_take]; rfl)) ?_; (with_reducible refine (query_May.calls _ _ l1_0 t147 _ ?side1 ?side2 A3.out).mono ?_); (case side1 => repeat (first | exact (Kd.C_below HR1_0.out HB.out) | (with_reducible refine Kd.C_alloc ?_ _) | (with_reducible refine Kd.C_drewN ?_ _) | (with_reducible refine Kd.C_drew ?_))); (case side2 => exact HC1_0.out); rintro e w13 ⟨rfl, hb⟩; refine ⟨_, rfl, ?_⟩; have n0_ := Aside0.mk (blk_below (g := gb146) (o := .cells #[.slice A1_0 l1_0.length c1_0] 34 (0, 0)) (by (with_reducible repeat (first | refine blk_drewN ?_ _ | refine blk_drew ?_ | refine blk_alloc ?_ _)); exact BK146.out) hb); have n1_ := Aside0.mk (below_step (by repeat (first | (with_reducible first | exact HB.out | apply below_alloc | apply pw_below_drewN | apply below_drew1 | refine below_set ?_ GE146.out) | exact HB.out)) hb); clear BK146; clear HB; have BK146 := n0_; have HB := n1_; clear n0_ n1_; (try clear hb); (try clear hb2); (try clear hk); (try clear hi)))
    go_ret2
    exact ⟨_, by first | rfl | (simp [errW_none, errW_some] <;> rfl) | (simp [*, errW_none, errW_some] <;> rfl), by first | exact Kd.R_nil _ _ _ _ _ | exact Kd.N_nil _ _ _ _ _ | exact Kd.V_nil _ _ _ _ _ | exact Kd.Q_nil _ _ _ _ _ | exact Kd.S_nil _ _ _ _ _, by repeat (first | (with_reducible first | exact HB.out | apply below_alloc | apply pw_below_drewN | apply below_drew1 | refine below_set ?_ GE146.out) | exact HB.out)⟩

end Go.Proofs.Ytocpcnmnhckcpaa.Prt
namespace Go.Proofs.Ytocpcnmnhckcpaa.Prt
open Go.RowKit Go.Proofs.YtocpcnmnhckcpaaW.PrintWords Go.Proofs.YtocpcnmnhckcpaaW.PrintLast Go.Proofs.YtocpcnmnhckcpaaW.PrintMore Go.Proofs.Ytocpcnmnhckcpaa.Num Go.Proofs.Ytocpcnmnhckcpaa.Nam
set_option linter.unusedVariables false
set_option linter.unusedSimpArgs false

theorem qput_ok {b : List Int} {l : List S92} (hb : b.length ≤ 100000000000) (hf : l.all fitC = true) : qcode_Put.f b l = some (if mayQ l = 0 then (b ++ encQ l, 0) else ([], mayQ l)) := by
  have m1 : query_May.f l = some (mayQ l) := if_pos hf
  unfold qcode_Put.f
  rw [m1]
  simp only [Option.bind_some]
  by_cases h0 : mayQ l = 0
  · have hz := encQ_size (mayQ_zero.1 h0)
    have m2 : qcode_put.f b l = some (b ++ encQ l) := if_pos (by omega)
    rw [if_pos h0, if_pos h0, m2]; rfl
  · rw [if_neg h0, if_neg h0]
theorem flat_bytes {α : Type} {f : α → List Int} (hf : ∀ x, isBytes (f x)) : ∀ l : List α, isBytes (l.flatMap f)
  | [] => by intro c hc; simp at hc
  | x :: r => by rw [List.flatMap_cons]; exact isBytes_append.2 ⟨hf x, flat_bytes hf r⟩
theorem encL_bytes (l : List ByteArray) : isBytes (encL l) := isBytes_append.2 ⟨enc_bytes _, encTs_bytes l⟩
theorem encC_bytes (x : S92) : isBytes (encC x) := isBytes_append.2 ⟨encL_bytes _, encL_bytes _⟩
theorem encQ_bytes (l : List S92) : isBytes (encQ l) := isBytes_append.2 ⟨enc_bytes _, flat_bytes encC_bytes l⟩
end Go.Proofs.Ytocpcnmnhckcpaa.Prt
namespace Go.Proofs.Ytocpcnmnhckcpaa.Prt
open Go.RowKit Go.Proofs.YtocpcnmnhckcpaaW.PrintWords Go.Proofs.YtocpcnmnhckcpaaW.PrintLast Go.Proofs.YtocpcnmnhckcpaaW.PrintMore Go.Proofs.Ytocpcnmnhckcpaa.Num Go.Proofs.Ytocpcnmnhckcpaa.Nam
set_option linter.unusedVariables false
set_option linter.unusedSimpArgs false

/-- A step: what it takes, whether there is one, the bytes left, whether the reader is bad. -/
abbrev Stp (α : Type) : Type := List Int → Bool → (α × Bool) × List Int × Bool
def takeN {α : Type} (step : Stp α) : Nat → List Int → Bool → List α → (List α × Bool) × List Int × Bool
  | 0, l, b, acc => ((acc, !b), l, b)
  | n + 1, l, b, acc => if (step l b).1.2 = false ∨ (step l b).2.2 = true then (([], false), (step l b).2) else takeN step n (step l b).2.1 (step l b).2.2 (acc ++ [(step l b).1.1])
/-- A list taken, of so many at most. -/
def takeL {α : Type} (step : Stp α) (most : Int) (l : List Int) (b : Bool) : (List α × Bool) × List Int × Bool :=
  if numOf l < 0 ∨ most < numOf l then (([], false), aft l, badOf l b) else takeN step (numOf l).toNat (aft l) (badOf l b) []
def stepT : Stp ByteArray := fun l b => ((textOf l, true), aftT l, badT l b)
def stepC : Stp S92 := fun l b =>
  if (takeL stepT 4 l b).1.2 = false then ((⟨(takeL stepT 4 l b).1.1, []⟩, false), (takeL stepT 4 l b).2)
  else ((⟨(takeL stepT 4 l b).1.1, (takeL stepT 4 (takeL stepT 4 l b).2.1 (takeL stepT 4 l b).2.2).1.1⟩, (takeL stepT 4 (takeL stepT 4 l b).2.1 (takeL stepT 4 l b).2.2).1.2), (takeL stepT 4 (takeL stepT 4 l b).2.1 (takeL stepT 4 l b).2.2).2)
/-- A query taken: its clauses, the error, the bytes left, whether the reader is bad. -/
def takeQ (l : List Int) (b : Bool) : List S92 × Int × List Int × Bool :=
  if (takeL stepC 4 l b).1.2 = false ∨ mayQ (takeL stepC 4 l b).1.1 ≠ 0 then ([], 2, (takeL stepC 4 l b).2) else ((takeL stepC 4 l b).1.1, 0, (takeL stepC 4 l b).2)
section
variable {α : Type} {step : Stp α} {e : α → List Int}
/-- What a step takes stands there as bytes. -/
def Good (step : Stp α) (e : α → List Int) : Prop := ∀ l b, isBytes l → (step l b).1.2 = true → (step l b).2.2 = false → b = false ∧ isBytes (step l b).2.1 ∧ l = e (step l b).1.1 ++ (step l b).2.1
theorem takeN_good (hg : Good step e) : ∀ (n : Nat) (l : List Int) (b : Bool) (acc : List α), isBytes l → (takeN step n l b acc).1.2 = true → b = false ∧ (takeN step n l b acc).2.2 = false ∧ isBytes (takeN step n l b acc).2.1 ∧ ∃ m, (takeN step n l b acc).1.1 = acc ++ m ∧ m.length = n ∧ l = m.flatMap e ++ (takeN step n l b acc).2.1
  | 0, l, b, acc, hb, h => by
    have hb0 : b = false := by simpa [takeN] using h
    exact ⟨hb0, hb0, hb, [], by simp [takeN], rfl, rfl⟩
  | n + 1, l, b, acc, hb, h => by
    by_cases hc : (step l b).1.2 = false ∨ (step l b).2.2 = true
    · rw [takeN, if_pos hc] at h; cases h
    · have h1 : (step l b).1.2 = true := by cases hz : (step l b).1.2 with | true => rfl | false => exact absurd (.inl hz) hc
      have h2 : (step l b).2.2 = false := by cases hz : (step l b).2.2 with | false => rfl | true => exact absurd (.inr hz) hc
      obtain ⟨g1, g2, g3⟩ := hg l b hb h1 h2
      rw [takeN, if_neg hc] at h ⊢
      obtain ⟨k1, k2, k3, m, k4, k5, k6⟩ := takeN_good hg n _ _ _ g2 h
      refine ⟨g1, k2, k3, (step l b).1.1 :: m, by rw [k4, List.append_assoc]; rfl, by rw [List.length_cons, k5], ?_⟩
      rw [List.flatMap_cons, List.append_assoc, ← k6]; exact g3
theorem takeL_good (hg : Good step e) {most : Int} {l : List Int} {b : Bool} (hb : isBytes l) (h : (takeL step most l b).1.2 = true) :
    b = false ∧ (takeL step most l b).2.2 = false ∧ isBytes (takeL step most l b).2.1 ∧ ((takeL step most l b).1.1.length : Int) ≤ most ∧ l = (enc ((takeL step most l b).1.1.length : Int) ++ (takeL step most l b).1.1.flatMap e) ++ (takeL step most l b).2.1 := by
  by_cases hc : numOf l < 0 ∨ most < numOf l
  · rw [takeL, if_pos hc] at h; cases h
  · rw [takeL, if_neg hc] at h ⊢
    obtain ⟨k1, k2, k3, m, k4, k5, k6⟩ := takeN_good hg _ _ _ _ (aft_bytes hb) h
    obtain ⟨g1, g2, g3⟩ := numOf_good hb k1
    rw [List.nil_append] at k4
    rw [k4]
    have hl : (m.length : Int) = numOf l := by omega
    refine ⟨g1, k2, k3, by omega, ?_⟩
    rw [hl, List.append_assoc, ← k6]; exact g2
theorem takeN_enc {m : List α} (he : ∀ x ∈ m, ∀ r, step (e x ++ r) false = ((x, true), r, false)) (r : List Int) : ∀ acc, takeN step m.length (m.flatMap e ++ r) false acc = ((acc ++ m, true), r, false) := by
  induction m with
  | nil => intro acc; simp [takeN]
  | cons x t ih =>
    intro acc
    have h1 := he x (by simp) (t.flatMap e ++ r)
    rw [List.length_cons, List.flatMap_cons, List.append_assoc, takeN, h1, if_neg (by simp)]
    have h2 := ih (fun y hy => he y (by simp [hy])) (acc ++ [x])
    simp only
    rw [h2, List.append_assoc]; rfl
theorem takeL_enc {most : Int} {m : List α} (hm : (m.length : Int) ≤ most) (hs : m.length ≤ 1000000) (he : ∀ x ∈ m, ∀ r, step (e x ++ r) false = ((x, true), r, false)) (r : List Int) : takeL step most ((enc (m.length : Int) ++ m.flatMap e) ++ r) false = ((m, true), r, false) := by
  obtain ⟨a1, a2, a3⟩ := numOf_enc (x := (m.length : Int)) ⟨by omega, by omega⟩ (m.flatMap e ++ r) false
  rw [takeL, List.append_assoc, a1, a2, a3, if_neg (by omega), Int.toNat_natCast, takeN_enc he r []]
  rfl
/-- What a step leaves is not longer; what it takes is so. -/
def Left (step : Stp α) (N : Nat) (p : α → Prop) : Prop := ∀ l b, isBytes l → l.length ≤ N → isBytes (step l b).2.1 ∧ (step l b).2.1.length ≤ l.length ∧ p (step l b).1.1
theorem takeN_left {N : Nat} {p : α → Prop} (hg : Left step N p) : ∀ (n : Nat) (l : List Int) (b : Bool) (acc : List α), isBytes l → l.length ≤ N → (∀ x ∈ acc, p x) → isBytes (takeN step n l b acc).2.1 ∧ (takeN step n l b acc).2.1.length ≤ l.length ∧ (∀ x ∈ (takeN step n l b acc).1.1, p x) ∧ (takeN step n l b acc).1.1.length ≤ acc.length + n
  | 0, l, b, acc, hb, hl, ha => ⟨hb, Nat.le_refl _, ha, Nat.le_refl _⟩
  | n + 1, l, b, acc, hb, hl, ha => by
    obtain ⟨g1, g2, g3⟩ := hg l b hb hl
    by_cases hc : (step l b).1.2 = false ∨ (step l b).2.2 = true
    · rw [takeN, if_pos hc]; exact ⟨g1, g2, fun x hx => by simp at hx, by simp⟩
    · rw [takeN, if_neg hc]
      obtain ⟨k1, k2, k3, k4⟩ := takeN_left hg n _ (step l b).2.2 (acc ++ [(step l b).1.1]) g1 (Nat.le_trans g2 hl) (fun x hx => by
        rcases List.mem_append.1 hx with hx | hx
        · exact ha x hx
        · rw [List.mem_singleton.1 hx]; exact g3)
      exact ⟨k1, Nat.le_trans k2 g2, k3, by rw [List.length_append, List.length_singleton] at k4; omega⟩
theorem takeL_left {N : Nat} {p : α → Prop} (hg : Left step N p) (most : Int) (hm : 0 ≤ most) (l : List Int) (b : Bool) (hb : isBytes l) (hl : l.length ≤ N) : isBytes (takeL step most l b).2.1 ∧ (takeL step most l b).2.1.length ≤ l.length ∧ (∀ x ∈ (takeL step most l b).1.1, p x) ∧ ((takeL step most l b).1.1.length : Int) ≤ most := by
  have h1 := aft_bytes hb
  have h2 := aft_len l hb
  by_cases hc : numOf l < 0 ∨ most < numOf l
  · rw [takeL, if_pos hc]; exact ⟨h1, h2, fun x hx => by simp at hx, by simpa using hm⟩
  · rw [takeL, if_neg hc]
    obtain ⟨k1, k2, k3, k4⟩ := takeN_left hg (numOf l).toNat _ (badOf l b) [] h1 (Nat.le_trans h2 hl) (fun x hx => by simp at hx)
    exact ⟨k1, Nat.le_trans k2 h2, k3, by rw [List.length_nil] at k4; omega⟩
end
theorem stepT_good : Good stepT (fun s => encT (bytesOf s)) := fun l b hb h1 h2 => by
  obtain ⟨g1, g2⟩ := textOf_good hb h2
  exact ⟨g1, aftT_bytes hb, g2⟩
theorem stepT_left (N : Nat) : Left stepT N (fun s => s.size ≤ N) := fun l b hb hl => ⟨aftT_bytes hb, aftT_len l hb, Nat.le_trans (textOf_size l hb) hl⟩
theorem stepT_enc {s : ByteArray} (hs : s.size ≤ 9223372036854775807) (r : List Int) : stepT (encT (bytesOf s) ++ r) false = ((s, true), r, false) := by
  obtain ⟨a1, a2, a3⟩ := textOf_enc hs r false
  unfold stepT; rw [a1, a2, a3]
theorem stepC_good : Good stepC encC := fun l b hb h1 h2 => by
  unfold stepC at h1 h2 ⊢
  by_cases hc : (takeL stepT 4 l b).1.2 = false
  · rw [if_pos hc] at h1; cases h1
  · rw [if_neg hc] at h1 h2 ⊢
    simp only at h1 h2 ⊢
    have hc1 : (takeL stepT 4 l b).1.2 = true := by simpa using hc
    obtain ⟨k1, k2, k3, k4, k5⟩ := takeL_good stepT_good hb hc1
    obtain ⟨j1, j2, j3, j4, j5⟩ := takeL_good stepT_good k3 h1
    refine ⟨k1, j3, ?_⟩
    unfold encC encL encTs
    simp only
    rw [List.append_assoc, ← j5]; exact k5
theorem stepC_left (N : Nat) : Left stepC N (fun x => (∀ s ∈ x.f0, s.size ≤ N) ∧ (∀ s ∈ x.f1, s.size ≤ N)) := fun l b hb hl => by
  obtain ⟨k1, k2, k3, k4⟩ := takeL_left (stepT_left N) 4 (by decide) l b hb hl
  unfold stepC
  by_cases hc : (takeL stepT 4 l b).1.2 = false
  · rw [if_pos hc]; exact ⟨k1, k2, k3, fun s hs => by simp at hs⟩
  · rw [if_neg hc]
    obtain ⟨j1, j2, j3, j4⟩ := takeL_left (stepT_left N) 4 (by decide) _ (takeL stepT 4 l b).2.2 k1 (Nat.le_trans k2 hl)
    exact ⟨j1, Nat.le_trans j2 k2, k3, j3⟩
theorem stepC_enc {x : S92} (h : OkC x) (r : List Int) : stepC (encC x ++ r) false = ((x, true), r, false) := by
  have h0 := h.h0
  have h1 := h.h1
  have f := fitC_iff.1 h.fit
  have a := takeL_enc (step := stepT) (e := fun s => encT (bytesOf s)) (most := 4) (m := x.f0) (by omega) (by omega) (fun s hs r => stepT_enc (f.1 s hs) r) (encL x.f1 ++ r)
  have b := takeL_enc (step := stepT) (e := fun s => encT (bytesOf s)) (most := 4) (m := x.f1) (by omega) (by omega) (fun s hs r => stepT_enc (f.2 s hs) r) r
  have e : encC x ++ r = (enc (x.f0.length : Int) ++ x.f0.flatMap fun s => encT (bytesOf s)) ++ (encL x.f1 ++ r) := by unfold encC; rw [List.append_assoc]; rfl
  have e2 : encL x.f1 ++ r = (enc (x.f1.length : Int) ++ x.f1.flatMap fun s => encT (bytesOf s)) ++ r := rfl
  unfold stepC
  rw [e, a]
  simp only
  rw [if_neg (by simp), e2, b]
/-- A query that is taken stands there as bytes. -/
theorem takeQ_good {l : List Int} {b : Bool} (hb : isBytes l) {q : List S92} {l' : List Int} {b' : Bool} (h : takeQ l b = (q, 0, l', b')) : b = false ∧ b' = false ∧ isBytes l' ∧ OkQ q ∧ l = encQ q ++ l' := by
  unfold takeQ at h
  by_cases hc : (takeL stepC 4 l b).1.2 = false ∨ mayQ (takeL stepC 4 l b).1.1 ≠ 0
  · rw [if_pos hc] at h; simp at h
  · rw [if_neg hc] at h
    rw [not_or] at hc
    obtain ⟨k1, k2, k3, k4, k5⟩ := takeL_good stepC_good hb (by simpa using hc.1)
    simp only [Prod.mk.injEq] at h
    obtain ⟨rfl, -, h3⟩ := h
    have e1 := congrArg (fun z => z.1) h3
    have e2 := congrArg (fun z => z.2) h3
    simp only at e1 e2
    subst e1; subst e2
    exact ⟨k1, k2, k3, mayQ_zero.1 (by simpa using hc.2), k5⟩
theorem takeQ_enc {q : List S92} (h : OkQ q) (r : List Int) : takeQ (encQ q ++ r) false = (q, 0, r, false) := by
  have h4 := h.h4
  have a := takeL_enc (step := stepC) (e := encC) (most := 4) (m := q) (by omega) (by omega) (fun x hx r => stepC_enc (h.hc x hx) r) r
  unfold takeQ encQ
  rw [a]
  simp only
  rw [if_neg (by rw [mayQ_zero.2 h]; simp)]
theorem takeQ_left (N : Nat) {l : List Int} (b : Bool) (hb : isBytes l) (hl : l.length ≤ N) : isBytes (takeQ l b).2.2.1 ∧ (takeQ l b).2.2.1.length ≤ l.length ∧ (∀ x ∈ (takeL stepC 4 l b).1.1, (∀ s ∈ x.f0, s.size ≤ N) ∧ (∀ s ∈ x.f1, s.size ≤ N)) ∧ ((takeL stepC 4 l b).1.1.length : Int) ≤ 4 ∧ ((takeQ l b).2.1 = 0 ∨ (takeQ l b).2.1 = 2 ∧ (takeQ l b).1 = []) := by
  obtain ⟨k1, k2, k3, k4⟩ := takeL_left (stepC_left N) 4 (by decide) l b hb hl
  unfold takeQ
  by_cases hc : (takeL stepC 4 l b).1.2 = false ∨ mayQ (takeL stepC 4 l b).1.1 ≠ 0
  · rw [if_pos hc]; exact ⟨k1, k2, k3, k4, .inr ⟨rfl, rfl⟩⟩
  · rw [if_neg hc]; exact ⟨k1, k2, k3, k4, .inl rfl⟩
end Go.Proofs.Ytocpcnmnhckcpaa.Prt
namespace Go.Proofs.Ytocpcnmnhckcpaa.Prt
open Go.RowKit Go.Proofs.YtocpcnmnhckcpaaW.PrintWords Go.Proofs.YtocpcnmnhckcpaaW.PrintLast Go.Proofs.YtocpcnmnhckcpaaW.PrintMore Go.Proofs.Ytocpcnmnhckcpaa.Num Go.Proofs.Ytocpcnmnhckcpaa.Nam
set_option linter.unusedVariables false
set_option linter.unusedSimpArgs false
/-- An event of which nothing is there. -/
def noV (e : S31) : Bool := decide (e.f0.size = 0) && (decide (e.f1.size = 0) && decide (e.f2.length + e.f3.length = 0))
theorem size_zero {s : ByteArray} (h : s.size = 0) : s = ⟨#[]⟩ := by
  obtain ⟨⟨l⟩⟩ := s
  have h2 : l.length = 0 := h
  cases l with
  | nil => rfl
  | cons a t => simp at h2
theorem noV_iff (e : S31) : noV e = true ↔ e = z31 := by
  unfold noV
  rw [Bool.and_eq_true, Bool.and_eq_true, decide_eq_true_iff, decide_eq_true_iff, decide_eq_true_iff]
  constructor
  · rintro ⟨h0, h1, h2⟩
    obtain ⟨a, b, c, d⟩ := e
    simp only at h0 h1 h2
    obtain rfl := size_zero h0
    obtain rfl := size_zero h1
    obtain rfl : c = [] := List.eq_nil_of_length_eq_zero (by omega)
    obtain rfl : d = [] := List.eq_nil_of_length_eq_zero (by omega)
    rfl
  · rintro rfl
    exact ⟨rfl, rfl, rfl⟩
def mayV (e : S31) : Int := if noV e = true then 0 else mayE e.f0 e.f1 e.f2 e.f3
def mayW (q : List S92) : Int := if q.length = 0 then 0 else mayQ q
def encV (e : S31) : List Int := if noV e = true then enc 0 else enc 1 ++ encEv e.f0 e.f1 e.f2 e.f3
def encW (q : List S92) : List Int := if q.length = 0 then enc 0 else enc 1 ++ encQ q
def encK (t : S36) : List Int := enc t.f0 ++ (enc t.f1 ++ (enc t.f2 ++ (enc t.f3 ++ encT (bytesOf t.f4))))
/-- A step as bytes. -/
def encS (t : S36) : List Int := encK t ++ (encV t.f5 ++ encW t.f6.f0)
def putS (t : S36) : List Int × Int := if mayV t.f5 ≠ 0 then ([], mayV t.f5) else if mayW t.f6.f0 ≠ 0 then ([], mayW t.f6.f0) else (encS t, 0)
/-- What a step is that may be laid down. -/
structure OkS (t : S36) : Prop where
  k0 : i64 t.f0
  k1 : i64 t.f1
  k2 : i64 t.f2
  k3 : i64 t.f3
  k4 : t.f4.size ≤ 9223372036854775807
  hv : mayV t.f5 = 0
  hq : mayW t.f6.f0 = 0
theorem mayV_ok {e : S31} (h : mayV e = 0) (h0 : ¬ noV e = true) : OkE e.f0 e.f1 e.f2 e.f3 := by
  unfold mayV at h
  rw [if_neg h0] at h
  exact (okE_iff _ _ _ _).1 h
theorem mayW_ok {q : List S92} (h : mayW q = 0) (h0 : ¬ q.length = 0) : OkQ q := by
  unfold mayW at h
  rw [if_neg h0] at h
  exact mayQ_zero.1 h
theorem putS_ok {t : S36} (hv : mayV t.f5 = 0) (hq : mayW t.f6.f0 = 0) : putS t = (encS t, 0) := by
  unfold putS
  rw [if_neg (fun h => h hv), if_neg (fun h => h hq)]
theorem putS_inv {t : S36} (h : (putS t).2 = 0) : mayV t.f5 = 0 ∧ mayW t.f6.f0 = 0 ∧ putS t = (encS t, 0) := by
  unfold putS at h
  by_cases h1 : mayV t.f5 = 0
  · by_cases h2 : mayW t.f6.f0 = 0
    · exact ⟨h1, h2, putS_ok h1 h2⟩
    · rw [if_neg (fun h => h h1), if_pos h2] at h; exact absurd h h2
  · rw [if_pos h1] at h; exact absurd h h1
theorem encEv_size {s t : ByteArray} {a : List ByteArray} {f : List S90} (h : OkE s t a f) : (encEv s t a f).length ≤ 1000 := by
  have h1 := may_size h.hs
  have h2 := may_size h.ht
  have e1 := encT_len s (by omega)
  have e2 := encT_len t (by omega)
  have h6 := h.ht6
  have h4 := h.hf4
  have e3 := enc_len (x := (a.length : Int)) ⟨by omega, by omega⟩
  have e4 := enc_len (x := (f.length : Int)) ⟨by omega, by omega⟩
  have e5 : (encTs a).length ≤ 59 * a.length := flat_size a (fun x hx => by
    have := tag_size (h.htag x hx)
    have := encT_len x (by omega)
    omega)
  have e6 : (encFs f).length ≤ 44 * f.length := flat_size f (fun x hx => by
    have := may_size (h.hname x hx)
    have := encT_len x.f0 (by omega)
    have h5 := h.hov x hx
    have := enc_len (x := x.f1) ⟨by omega, by omega⟩
    rw [List.length_append]; omega)
  unfold encEv
  simp only [List.length_append]
  omega
theorem encV_size {e : S31} (h : mayV e = 0) : (encV e).length ≤ 1010 := by
  have h1 := enc_len (x := 1) ⟨by decide, by decide⟩
  have h0 := enc_len (x := 0) ⟨by decide, by decide⟩
  unfold encV
  by_cases hn : noV e = true
  · rw [if_pos hn]; omega
  · rw [if_neg hn, List.length_append]
    have := encEv_size (mayV_ok h hn)
    omega
theorem encW_size {q : List S92} (h : mayW q = 0) : (encW q).length ≤ 2010 := by
  have h1 := enc_len (x := 1) ⟨by decide, by decide⟩
  have h0 := enc_len (x := 0) ⟨by decide, by decide⟩
  unfold encW
  by_cases hn : q.length = 0
  · rw [if_pos hn]; omega
  · rw [if_neg hn, List.length_append]
    have := encQ_size (mayW_ok h hn)
    omega
theorem encS_size {t : S36} (h : OkS t) : (encS t).length ≤ 3070 + t.f4.size := by
  have h0 := enc_len h.k0
  have h1 := enc_len h.k1
  have h2 := enc_len h.k2
  have h3 := enc_len h.k3
  have h4 := encT_len t.f4 h.k4
  have h5 := encV_size h.hv
  have h6 := encW_size h.hq
  unfold encS encK
  simp only [List.length_append]
  omega
theorem encV_bytes (e : S31) : isBytes (encV e) := by
  unfold encV
  split
  · exact enc_bytes _
  · exact isBytes_append.2 ⟨enc_bytes _, encEv_bytes _ _ _ _⟩
theorem encW_bytes (q : List S92) : isBytes (encW q) := by
  unfold encW
  split
  · exact enc_bytes _
  · exact isBytes_append.2 ⟨enc_bytes _, encQ_bytes _⟩
theorem encT_isBytes (s : ByteArray) : isBytes (encT (bytesOf s)) := isBytes_append.2 ⟨enc_bytes _, bytesOf_isBytes _⟩
theorem encK_bytes (t : S36) : isBytes (encK t) := isBytes_append.2 ⟨enc_bytes _, isBytes_append.2 ⟨enc_bytes _, isBytes_append.2 ⟨enc_bytes _, isBytes_append.2 ⟨enc_bytes _, encT_isBytes _⟩⟩⟩⟩
theorem encS_bytes (t : S36) : isBytes (encS t) := isBytes_append.2 ⟨encK_bytes _, isBytes_append.2 ⟨encV_bytes _, encW_bytes _⟩⟩
/-- An event taken, or none: the event, the error, the bytes left, whether the reader is bad. -/
def takeV (l : List Int) (b : Bool) : S31 × Int × List Int × Bool := if numOf l = 1 then takeE (aft l) (badOf l b) else (z31, 0, aft l, badOf l b)
def takeW (l : List Int) (b : Bool) : List S92 × Int × List Int × Bool := if numOf l = 1 then takeQ (aft l) (badOf l b) else ([], 0, aft l, badOf l b)
def headA (l : List Int) : List Int := aftT (aft (aft (aft (aft l))))
def headB (l : List Int) : Bool := badT (aft (aft (aft (aft l)))) (badOf (aft (aft (aft l))) (badOf (aft (aft l)) (badOf (aft l) (badOf l false))))
def stepOf (l : List Int) (e : S31) (q : List S92) : S36 := ⟨numOf l, numOf (aft l), numOf (aft (aft l)), numOf (aft (aft (aft l))), textOf (aft (aft (aft (aft l)))), e, ⟨q⟩⟩
/-- A step taken: the two errors, whether the reader is bad. -/
def takeT (l : List Int) : S36 × Int × Int × List Int × Bool :=
  (stepOf l (takeV (headA l) (headB l)).1 (takeW (takeV (headA l) (headB l)).2.2.1 (takeV (headA l) (headB l)).2.2.2).1, (takeV (headA l) (headB l)).2.1, (takeW (takeV (headA l) (headB l)).2.2.1 (takeV (headA l) (headB l)).2.2.2).2.1, (takeW (takeV (headA l) (headB l)).2.2.1 (takeV (headA l) (headB l)).2.2.2).2.2)
/-- A step taken, and the error. -/
def takeS (l : List Int) : S36 × Int :=
  if (takeT l).2.2.2.2 = true ∨ (takeT l).2.1 ≠ 0 ∨ (takeT l).2.2.1 ≠ 0 ∨ (putS (takeT l).1).2 ≠ 0 ∨ (putS (takeT l).1).1 ≠ l then (z36, 240) else ((takeT l).1, 0)
theorem takeV_enc {e : S31} (h : mayV e = 0) (r : List Int) : takeV (encV e ++ r) false = (e, 0, r, false) := by
  unfold takeV encV
  by_cases h0 : noV e = true
  · rw [if_pos h0]
    obtain ⟨a1, a2, a3⟩ := numOf_enc (x := 0) ⟨by decide, by decide⟩ r false
    rw [a1, a2, a3, if_neg (by decide), (noV_iff e).1 h0]
  · rw [if_neg h0]
    obtain ⟨a1, a2, a3⟩ := numOf_enc (x := 1) ⟨by decide, by decide⟩ (encEv e.f0 e.f1 e.f2 e.f3 ++ r) false
    rw [List.append_assoc, a1, a2, a3, if_pos rfl, takeE_enc (mayV_ok h h0) r]
theorem takeW_enc {q : List S92} (h : mayW q = 0) (r : List Int) : takeW (encW q ++ r) false = (q, 0, r, false) := by
  unfold takeW encW
  by_cases h0 : q.length = 0
  · rw [if_pos h0]
    obtain ⟨a1, a2, a3⟩ := numOf_enc (x := 0) ⟨by decide, by decide⟩ r false
    rw [a1, a2, a3, if_neg (by decide), List.eq_nil_of_length_eq_zero h0]
  · rw [if_neg h0]
    obtain ⟨a1, a2, a3⟩ := numOf_enc (x := 1) ⟨by decide, by decide⟩ (encQ q ++ r) false
    rw [List.append_assoc, a1, a2, a3, if_pos rfl, takeQ_enc (mayW_ok h h0) r]
theorem takeT_enc {t : S36} (h : OkS t) (r : List Int) : takeT (encS t ++ r) = (t, 0, 0, r, false) := by
  obtain ⟨t0, t1, t2, t3, t4, t5, ⟨t6⟩⟩ := t
  obtain ⟨k0, k1, k2, k3, k4, hv, hq⟩ := h
  simp only at k0 k1 k2 k3 k4 hv hq
  have e : encS ⟨t0, t1, t2, t3, t4, t5, ⟨t6⟩⟩ ++ r = enc t0 ++ (enc t1 ++ (enc t2 ++ (enc t3 ++ (encT (bytesOf t4) ++ (encV t5 ++ (encW t6 ++ r)))))) := by
    unfold encS encK
    simp only [List.append_assoc]
  rw [e]
  obtain ⟨a1, a2, a3⟩ := numOf_enc k0 (enc t1 ++ (enc t2 ++ (enc t3 ++ (encT (bytesOf t4) ++ (encV t5 ++ (encW t6 ++ r)))))) false
  obtain ⟨b1, b2, b3⟩ := numOf_enc k1 (enc t2 ++ (enc t3 ++ (encT (bytesOf t4) ++ (encV t5 ++ (encW t6 ++ r))))) false
  obtain ⟨c1, c2, c3⟩ := numOf_enc k2 (enc t3 ++ (encT (bytesOf t4) ++ (encV t5 ++ (encW t6 ++ r)))) false
  obtain ⟨d1, d2, d3⟩ := numOf_enc k3 (encT (bytesOf t4) ++ (encV t5 ++ (encW t6 ++ r))) false
  obtain ⟨f1, f2, f3⟩ := textOf_enc k4 (encV t5 ++ (encW t6 ++ r)) false
  have hv' := takeV_enc hv (encW t6 ++ r)
  have hw' := takeW_enc hq r
  unfold takeT headA headB stepOf
  rw [a1, a2, a3, b1, b2, b3, c1, c2, c3, d1, d2, d3, f1, f2, f3, hv']
  simp only
  rw [hw']
theorem takeS_enc {t : S36} (h : OkS t) : takeS (encS t) = (t, 0) := by
  have h1 := takeT_enc h []
  rw [List.append_nil] at h1
  unfold takeS
  rw [h1]
  simp only
  rw [putS_ok h.hv h.hq, if_neg (by simp)]
theorem takeT_ok {l : List Int} (hb : isBytes l) (hl : l.length ≤ 9223372036854775807) : i64 (takeT l).1.f0 ∧ i64 (takeT l).1.f1 ∧ i64 (takeT l).1.f2 ∧ i64 (takeT l).1.f3 ∧ (takeT l).1.f4.size ≤ l.length := by
  have y1 := aft_bytes hb
  have y2 := aft_bytes y1
  have y3 := aft_bytes y2
  have y4 := aft_bytes y3
  have z1 := aft_len l hb
  have z2 := aft_len _ y1
  have z3 := aft_len _ y2
  have z4 := aft_len _ y3
  refine ⟨numOf_i64 hb, numOf_i64 y1, numOf_i64 y2, numOf_i64 y3, ?_⟩
  have := textOf_size _ y4
  show (textOf (aft (aft (aft (aft l))))).size ≤ l.length
  omega
end Go.Proofs.Ytocpcnmnhckcpaa.Prt
namespace Go.Proofs.Ytocpcnmnhckcpaa.Prt
open Go.RowKit Go.Proofs.YtocpcnmnhckcpaaW.PrintWords Go.Proofs.YtocpcnmnhckcpaaW.PrintLast Go.Proofs.YtocpcnmnhckcpaaW.PrintMore Go.Proofs.Ytocpcnmnhckcpaa.Num Go.Proofs.Ytocpcnmnhckcpaa.Nam
set_option linter.unusedVariables false
set_option linter.unusedSimpArgs false
theorem OkE.fits {s t : ByteArray} {a : List ByteArray} {f : List S90} (h : OkE s t a f) : fitE s t a f = true ∧ a.length ≤ 6 := by
  obtain ⟨h1, h2, h3, h4, h5, h6⟩ := h.sizes
  have := h.hf4
  exact ⟨fitE_iff.2 ⟨h1, h2, h3, fun x hx => (h4 x hx).1, by omega⟩, h.ht6⟩
theorem noV_fit {e : S31} (h : noV e = true) : fitE e.f0 e.f1 e.f2 e.f3 = true ∧ e.f2.length ≤ 6 := by
  rw [(noV_iff e).1 h]
  exact ⟨rfl, by decide⟩
theorem mayV_fit {e : S31} (h : mayV e = 0) : fitE e.f0 e.f1 e.f2 e.f3 = true ∧ e.f2.length ≤ 6 := by
  by_cases hn : noV e = true
  · exact noV_fit hn
  · exact (mayV_ok h hn).fits
theorem mayW_fit {q : List S92} (h : mayW q = 0) : q.all fitC = true := by
  by_cases hn : q.length = 0
  · rw [List.eq_nil_of_length_eq_zero hn]; rfl
  · exact (mayW_ok h hn).fit
theorem mayV_of {e : S31} (h : OkE e.f0 e.f1 e.f2 e.f3) : mayV e = 0 := by
  unfold mayV
  split
  · rfl
  · exact (okE_iff _ _ _ _).2 h
theorem mayV_zero : mayV z31 = 0 := by
  unfold mayV
  rw [if_pos ((noV_iff _).2 rfl)]
theorem mayW_of {q : List S92} (h : OkQ q) : mayW q = 0 := by
  unfold mayW
  split
  · rfl
  · exact mayQ_zero.2 h
theorem takeV_may (l : List Int) (b : Bool) (hb : isBytes l) : mayV (takeV l b).1 = 0 ∧ ((takeV l b).2.1 = 0 ∨ (takeV l b).2.1 = 2) := by
  unfold takeV
  split
  · rcases takeE_code (aft l) (badOf l b) with h | ⟨h, h2⟩
    · obtain ⟨g1, g2, g3, g4⟩ := takeE_good (aft_bytes hb) (x := (takeE (aft l) (badOf l b)).1) (l' := (takeE (aft l) (badOf l b)).2.2.1) (b' := (takeE (aft l) (badOf l b)).2.2.2) (by rw [← h])
      exact ⟨mayV_of g3, .inl h⟩
    · rw [h2]; exact ⟨mayV_zero, .inr h⟩
  · exact ⟨mayV_zero, .inl rfl⟩
theorem takeW_may (l : List Int) (b : Bool) (hb : isBytes l) : mayW (takeW l b).1 = 0 ∧ ((takeW l b).2.1 = 0 ∨ (takeW l b).2.1 = 2) := by
  unfold takeW
  split
  · obtain ⟨k1, k2, k3, k4, k5⟩ := takeQ_left _ (badOf l b) (aft_bytes hb) (Nat.le_refl _)
    rcases k5 with h | ⟨h, h2⟩
    · obtain ⟨g1, g2, g3, g4, g5⟩ := takeQ_good (aft_bytes hb) (q := (takeQ (aft l) (badOf l b)).1) (l' := (takeQ (aft l) (badOf l b)).2.2.1) (b' := (takeQ (aft l) (badOf l b)).2.2.2) (by rw [← h])
      exact ⟨mayW_of g4, .inl h⟩
    · rw [h2]; exact ⟨rfl, .inr h⟩
  · exact ⟨rfl, .inl rfl⟩
theorem takeFs_bytes (l : List Int) (b : Bool) (hb : isBytes l) (n : Nat) : isBytes (takeFs n l b).2.1 ∧ (takeFs n l b).2.1.length ≤ l.length := ⟨(takeFs_left l b hb n).1, (takeFs_left l b hb n).2.1⟩
theorem takeE_left (l : List Int) (b : Bool) (hb : isBytes l) : isBytes (takeE l b).2.2.1 ∧ (takeE l b).2.2.1.length ≤ l.length := by
  have y1 := aftT_bytes hb
  have y2 := aftT_bytes y1
  have y3 := aft_bytes y2
  have z1 := aftT_len l hb
  have z2 := aftT_len _ y1
  have z3 := aft_len _ y2
  unfold takeE
  simp only
  split
  · exact ⟨y3, by simp only; omega⟩
  · obtain ⟨w1, w2, _⟩ := takeTs_left (aft (aftT (aftT l))) (badOf (aftT (aftT l)) (badT (aftT l) (badT l b))) y3 (numOf (aftT (aftT l))).toNat
    have x1 := aft_bytes w1
    have x2 := aft_len _ w1
    split
    · exact ⟨x1, by simp only; omega⟩
    · obtain ⟨v1, v2⟩ := takeFs_bytes _ (badOf (takeTs (numOf (aftT (aftT l))).toNat (aft (aftT (aftT l))) (badOf (aftT (aftT l)) (badT (aftT l) (badT l b)))).2.1 (takeTs (numOf (aftT (aftT l))).toNat (aft (aftT (aftT l))) (badOf (aftT (aftT l)) (badT (aftT l) (badT l b)))).2.2) x1 (numOf (takeTs (numOf (aftT (aftT l))).toNat (aft (aftT (aftT l))) (badOf (aftT (aftT l)) (badT (aftT l) (badT l b)))).2.1).toNat
      split
      · exact ⟨v1, by simp only; omega⟩
      · exact ⟨v1, by simp only; omega⟩
theorem takeV_left (l : List Int) (b : Bool) (hb : isBytes l) : isBytes (takeV l b).2.2.1 ∧ (takeV l b).2.2.1.length ≤ l.length := by
  have y := aft_bytes hb
  have z := aft_len l hb
  unfold takeV
  split
  · obtain ⟨h1, h2⟩ := takeE_left (aft l) (badOf l b) y
    exact ⟨h1, by omega⟩
  · exact ⟨y, z⟩
theorem headA_bytes {l : List Int} (hb : isBytes l) : isBytes (headA l) := aftT_bytes (aft_bytes (aft_bytes (aft_bytes (aft_bytes hb))))
theorem takeT_may {l : List Int} (hb : isBytes l) (hl : l.length ≤ 1000000000) : OkS (takeT l).1 ∧ (takeT l).1.f4.size ≤ 1000000000 ∧ ((takeT l).2.1 = 0 ∨ (takeT l).2.1 = 2) ∧ ((takeT l).2.2.1 = 0 ∨ (takeT l).2.2.1 = 2) := by
  obtain ⟨g1, g2, g3, g4, g5⟩ := takeT_ok hb (by omega)
  have y := headA_bytes hb
  obtain ⟨v1, v2⟩ := takeV_may (headA l) (headB l) y
  obtain ⟨w1, w2⟩ := takeW_may (takeV (headA l) (headB l)).2.2.1 (takeV (headA l) (headB l)).2.2.2 (takeV_left _ _ y).1
  exact ⟨⟨g1, g2, g3, g4, by omega, v1, w1⟩, by omega, v2, w2⟩
theorem takeS_eq {l : List Int} (hb : isBytes l) (hl : l.length ≤ 1000000000) : takeS l = if (takeT l).2.2.2.2 = true ∨ (takeT l).2.1 ≠ 0 ∨ (takeT l).2.2.1 ≠ 0 ∨ encS (takeT l).1 ≠ l then (z36, 240) else ((takeT l).1, 0) := by
  obtain ⟨g, -, -, -⟩ := takeT_may hb hl
  unfold takeS
  rw [putS_ok g.hv g.hq]
  simp
end Go.Proofs.Ytocpcnmnhckcpaa.Prt
namespace Go.Proofs.Ytocpcnmnhckcpaa.Prt
open Go.RowKit Go.Proofs.YtocpcnmnhckcpaaW.PrintWords Go.Proofs.YtocpcnmnhckcpaaW.PrintLast Go.Proofs.YtocpcnmnhckcpaaW.PrintMore Go.Proofs.Ytocpcnmnhckcpaa.Num Go.Proofs.Ytocpcnmnhckcpaa.Nam
set_option linter.unusedVariables false
set_option linter.unusedSimpArgs false
def dig (n : Int) : Int := if n < 10 then 48 + n else 87 + n
/-- Bytes, two digits each. -/
def hexL (l : List Int) : List Int := l.flatMap fun c => [dig (c / 16), dig (c % 16)]
/-- What a digit is; -1, if it is none. -/
def undig (c : Int) : Int := if 48 ≤ c ∧ c ≤ 57 then c - 48 else if 97 ≤ c ∧ c ≤ 102 then c - 87 else -1
def unhexL : List Int → Option (List Int)
  | [] => some []
  | [_] => none
  | a :: b :: r => if undig a < 0 ∨ undig b < 0 then none else (unhexL r).map fun m => (undig a * 16 + undig b) :: m
/-- The step of a line. -/
def lineS (l : List Int) : S36 × Int := match unhexL l with
  | none => (z36, 240)
  | some b => takeS b
theorem undig_dig {n : Int} (h0 : 0 ≤ n) (h1 : n < 16) : undig (dig n) = n := by
  unfold undig dig
  by_cases h : n < 10
  · rw [if_pos h, if_pos (by omega)]; omega
  · rw [if_neg h, if_neg (by omega), if_pos (by omega)]; omega
theorem dig_undig {c : Int} (h : ¬ undig c < 0) : dig (undig c) = c ∧ 0 ≤ undig c ∧ undig c < 16 := by
  unfold undig at h ⊢
  unfold dig
  by_cases h1 : 48 ≤ c ∧ c ≤ 57
  · rw [if_pos h1] at h ⊢
    rw [if_pos (by omega)]; omega
  · rw [if_neg h1] at h ⊢
    by_cases h2 : 97 ≤ c ∧ c ≤ 102
    · rw [if_pos h2] at h ⊢
      rw [if_neg (by omega)]; omega
    · rw [if_neg h2] at h; omega
theorem dig_range {n : Int} (h0 : 0 ≤ n) (h1 : n < 16) : 48 ≤ dig n ∧ dig n ≤ 102 := by
  unfold dig
  split <;> omega
theorem hexL_cons (c : Int) (l : List Int) : hexL (c :: l) = dig (c / 16) :: dig (c % 16) :: hexL l := rfl
theorem hexL_append (a b : List Int) : hexL (a ++ b) = hexL a ++ hexL b := List.flatMap_append
theorem hexL_len (l : List Int) : (hexL l).length = 2 * l.length := by
  induction l with
  | nil => rfl
  | cons c t ih => rw [hexL_cons, List.length_cons, List.length_cons, List.length_cons, ih]; omega
theorem hexL_mem {l : List Int} (hb : isBytes l) : ∀ c ∈ hexL l, 48 ≤ c ∧ c ≤ 102 := by
  intro c hc
  unfold hexL at hc
  obtain ⟨x, hx, h⟩ := List.mem_flatMap.1 hc
  have := hb x hx
  simp only [List.mem_cons, List.not_mem_nil, or_false] at h
  rcases h with rfl | rfl
  · exact dig_range (by omega) (by omega)
  · exact dig_range (by omega) (by omega)
theorem hexL_bytes {l : List Int} (hb : isBytes l) : isBytes (hexL l) := fun c hc => by have := hexL_mem hb c hc; omega
theorem unhex_hex : ∀ l : List Int, isBytes l → unhexL (hexL l) = some l
  | [], _ => rfl
  | c :: t, hb => by
    have hc := hb c (by simp)
    rw [hexL_cons, unhexL, undig_dig (by omega) (by omega), undig_dig (by omega) (by omega), if_neg (by omega), unhex_hex t (fun x hx => hb x (by simp [hx]))]
    simp only [Option.map_some, Option.some.injEq, List.cons.injEq, and_true]
    omega
theorem lineS_hex {t : S36} (h : OkS t) : lineS (hexL (encS t)) = (t, 0) := by
  unfold lineS
  rw [unhex_hex _ (encS_bytes t)]
  exact takeS_enc h
/-- A script's line. -/
def lineT (t : S36) : List Int := hexL (encS t) ++ [10]
def printL (l : List S36) : List Int := l.flatMap lineT
def firstS : List S36 → Int
  | [] => 0
  | t :: r => if (putS t).2 = 0 then firstS r else (putS t).2
/-- A script printed, and the error. -/
def printS (l : List S36) : List Int × Int := if 2048 < l.length then ([], 3) else if firstS l ≠ 0 then ([], firstS l) else (printL l, 0)
/-- The bytes ahead of the first end of a line. -/
def headN (s : List Int) : List Int := s.takeWhile (fun c => c != 10)
/-- A script's lines read, one behind the other. -/
def parseF : Nat → List Int → List S36 → List S36 × Int × Int
  | 0, _, acc => (acc, 0, 0)
  | n + 1, s, acc =>
    if s = [] then (acc, 0, 0)
    else if (headN s).length = s.length ∨ (lineS (headN s)).2 ≠ 0 then ([], (acc.length : Int) + 1, 240)
    else parseF n (s.drop ((headN s).length + 1)) (acc ++ [(lineS (headN s)).1])
def parseS (s : List Int) : List S36 × Int × Int := if 65536 < s.length ∨ 2048 < s.count 10 then ([], 0, 3) else parseF (s.length + 1) s []
theorem headN_line {a : List Int} (h : (10 : Int) ∉ a) (r : List Int) : headN (a ++ 10 :: r) = a := by
  unfold headN
  induction a with
  | nil => simp
  | cons c t ih =>
    have hc : c ≠ 10 := fun e => h (by simp [e])
    rw [List.cons_append, List.takeWhile_cons, if_pos (by simpa using hc), ih (fun hm => h (by simp [hm]))]
theorem headN_le (s : List Int) : (headN s).length ≤ s.length := (List.takeWhile_sublist _).length_le
theorem hex_no10 {l : List Int} (hb : isBytes l) : (10 : Int) ∉ hexL l := fun h => by have := hexL_mem hb 10 h; omega
theorem headN_lineT (t : S36) (r : List Int) : headN (lineT t ++ r) = hexL (encS t) := by
  unfold lineT
  rw [List.append_assoc]
  exact headN_line (hex_no10 (encS_bytes t)) r
theorem lineT_len (t : S36) : (lineT t).length = 2 * (encS t).length + 1 := by
  unfold lineT
  rw [List.length_append, hexL_len]; rfl
theorem parseF_line {t : S36} (h : OkS t) (n : Nat) (r : List Int) (acc : List S36) : parseF (n + 1) (lineT t ++ r) acc = parseF n r (acc ++ [t]) := by
  have h1 := headN_lineT t r
  have h2 := lineT_len t
  rw [parseF, if_neg (fun e => by have := congrArg List.length e; rw [List.length_append, List.length_nil] at this; omega), h1, lineS_hex h, hexL_len, if_neg (by rw [List.length_append]; simp; omega)]
  congr 1
  rw [← h2, List.drop_left]
theorem parseF_print : ∀ (l : List S36) (n : Nat) (r : List Int) (acc : List S36), (∀ t ∈ l, OkS t) → parseF (n + l.length) (printL l ++ r) acc = parseF n r (acc ++ l)
  | [], n, r, acc, _ => by simp [printL]
  | t :: m, n, r, acc, h => by
    rw [show printL (t :: m) ++ r = lineT t ++ (printL m ++ r) by unfold printL; rw [List.flatMap_cons, List.append_assoc], List.length_cons, ← Nat.add_assoc, parseF_line (h t (by simp)), parseF_print m n r _ (fun x hx => h x (by simp [hx])), List.append_assoc]
    rfl
theorem printL_len : ∀ l : List S36, l.length ≤ (printL l).length
  | [] => Nat.le_refl _
  | t :: m => by
    have h := printL_len m
    have h2 := lineT_len t
    unfold printL at h ⊢
    rw [List.flatMap_cons, List.length_append, List.length_cons]; omega
theorem parseF_nil (n : Nat) (acc : List S36) : parseF n [] acc = (acc, 0, 0) := by
  cases n with
  | zero => rfl
  | succ n => rw [parseF, if_pos rfl]
theorem parseF_all (l : List S36) (h : ∀ t ∈ l, OkS t) (n : Nat) (hn : l.length ≤ n) : parseF n (printL l) [] = (l, 0, 0) := by
  obtain ⟨k, rfl⟩ : ∃ k, n = k + l.length := ⟨n - l.length, by omega⟩
  have := parseF_print l k [] [] h
  rw [List.append_nil] at this
  rw [this, parseF_nil]; rfl
theorem count_print : ∀ l : List S36, (printL l).count 10 = l.length
  | [] => rfl
  | t :: m => by
    have h := count_print m
    unfold printL at h ⊢
    rw [List.flatMap_cons, List.count_append, h]
    unfold lineT
    rw [List.count_append, List.count_eq_zero_of_not_mem (hex_no10 (encS_bytes t)), List.length_cons]
    simp; omega
theorem lineT_bytes (t : S36) : isBytes (lineT t) := isBytes_append.2 ⟨hexL_bytes (encS_bytes t), fun c hc => by rw [List.mem_singleton.1 hc]; omega⟩
theorem printL_bytes (l : List S36) : isBytes (printL l) := flat_bytes lineT_bytes l
theorem firstS_zero {l : List S36} : firstS l = 0 ↔ ∀ t ∈ l, (putS t).2 = 0 := by
  induction l with
  | nil => simp [firstS]
  | cons t m ih =>
    unfold firstS
    by_cases h : (putS t).2 = 0
    · rw [if_pos h, ih]; simp [h]
    · rw [if_neg h]; simp [h]
end Go.Proofs.Ytocpcnmnhckcpaa.Prt
namespace Go.Proofs.Ytocpcnmnhckcpaa.Prt
open Go.RowKit Go.Proofs.YtocpcnmnhckcpaaW.PrintWords Go.Proofs.YtocpcnmnhckcpaaW.PrintLast Go.Proofs.YtocpcnmnhckcpaaW.PrintMore Go.Proofs.Ytocpcnmnhckcpaa.Num Go.Proofs.Ytocpcnmnhckcpaa.Nam
set_option linter.unusedVariables false
set_option linter.unusedSimpArgs false
theorem dig_ix (n : Int) (h0 : 0 ≤ n) (h1 : n < 16) (hp : n.toNat < (⟨#[48, 49, 50, 51, 52, 53, 54, 55, 56, 57, 97, 98, 99, 100, 101, 102]⟩ : ByteArray).size) : (((⟨#[48, 49, 50, 51, 52, 53, 54, 55, 56, 57, 97, 98, 99, 100, 101, 102]⟩ : ByteArray)[n.toNat]'hp).toNat : Int) = dig n := by
  obtain ⟨k, rfl⟩ := Int.eq_ofNat_of_zero_le h0
  have hk : k = 0 ∨ k = 1 ∨ k = 2 ∨ k = 3 ∨ k = 4 ∨ k = 5 ∨ k = 6 ∨ k = 7 ∨ k = 8 ∨ k = 9 ∨ k = 10 ∨ k = 11 ∨ k = 12 ∨ k = 13 ∨ k = 14 ∨ k = 15 := by omega
  rcases hk with rfl | rfl | rfl | rfl | rfl | rfl | rfl | rfl | rfl | rfl | rfl | rfl | rfl | rfl | rfl | rfl <;> rfl
set_option maxRecDepth 100000 in
set_option maxHeartbeats 4000000 in
theorem written_calls (A : Option Addr) (c : Nat) (l : List Int) (w : World) (hC : Kd.C (Kd.int .u8) w A l.length l) (hc : l.length ≤ c) (hb : isBytes l) (hl : l.length ≤ 10000000000) :
    Calls Try.prog 15 #[.slice A l.length c] w fun e w' => e = .returned (.string (strOfNums (hexL l))) ∧ Below w.heap.size w w' := by
  have HC := Aside0.mk hC
  have HBY := Aside0.mk hb
  clear hC hc hb
  have hu := Try.underlying50
  go_enter Try.func15, Try.ntmps15
  go_upto_region 3 with (first | ((with_reducible refine gate_dst (N := 3) rfl ?_); (try (refine gate_guard (by rfl) ?_; dsimp only)); refine box_event ?hg (N := 3) ?hd (cs := #[.pointer none, .slice none 0 0]) (t := 50) ?hr ?_; (case hd => rfl); (case hg => rfl); (case hr => first | (go_simp; done) | (go_simp; rfl)); intro B hg_ w1 hbox_ hb_; have HX := Aside0.mk hbox_; have HXN := Aside0.mk hg_; have HXB := Aside0.mk hb_; clear hbox_ hg_ hb_))
  obtain ⟨N, hN⟩ : ∃ N, N = w1.heap.size := ⟨_, rfl⟩
  have HB1 := Aside0.mk (Bld.start HX.out hN)
  have HNB := Aside0.mk (show w.heap.size ≤ N ∧ w.heap.size ≤ B by have := HXN.out; have := HXB.out.size; omega)
  clear HX hN HXN
  go_loopg [8] l.length (fun gk v8 w' => ∃ i : Nat, v8 = .int .i64 (i : Int) ∧ Aside0 (i + gk = l.length) ∧ Aside0 (Bld N B (hexL (l.take i)) w') ∧ Aside0 (Low N B w1 w'))
  case atStart => exact ⟨0, rfl, ⟨by omega⟩, HB1, ⟨Low.refl⟩⟩
  case round =>
    clear HB1
    obtain ⟨i, rfl, HE, HB, HL⟩ := hrel
    have HBW := Aside0.mk (HXB.out.trans (HL.out.below HNB.out.1 HNB.out.2))
    by_cases hlt : i < l.length
    · have hb1 : decide ((i : Int) < (l.length : Int)) = true := decide_eq_true (by omega)
      obtain ⟨ad, e_, hx⟩ := Kd.at_int (Kd.C_below HC.out HBW.out) (i : Int) (by omega) (by omega)
      cases e_
      rw [Int.toNat_natCast] at hx
      have hft := take_snoc l i hlt
      have hby := HBY.out (l.getD i 0) (getD_mem' hlt _)
      obtain ⟨y, hyd⟩ : ∃ y, y = rd l (i : Int) := ⟨_, rfl⟩
      have hyd' : l.getD i 0 = y := by rw [hyd]; rfl
      rw [← hyd] at hx
      rw [hyd'] at hft hby
      have HFT := Aside0.mk hft
      obtain ⟨hy0, hy1⟩ := hby
      clear hyd hyd' hft
      go_wp2_with fail
      have hhz := hexL_len (l.take i)
      rw [List.length_take] at hhz
      refine (writeByte_calls N B _ _ wr (by omega) HB.out).mono ?_
      rintro e w2 ⟨⟨v2, rfl⟩, hb2, hl2⟩
      rw [dig_ix _ (by omega) (by omega)] at hb2
      have HB2 := Aside0.mk hb2
      have HL2 := Aside0.mk (HL.out.trans hl2)
      clear hb2 hl2 HB HL HBW hx
      go_wp2_with fail
      refine (writeByte_calls N B _ _ w2 (by rw [List.length_append, List.length_singleton]; omega) HB2.out).mono ?_
      rintro e w3 ⟨⟨v3, rfl⟩, hb3, hl3⟩
      rw [dig_ix _ (by omega) (by omega)] at hb3
      have HB3 : Aside0 (Bld N B (hexL (l.take (i + 1))) w3) := ⟨by
        rw [HFT.out, hexL_append]
        rw [List.append_assoc] at hb3
        exact hb3⟩
      have HL3 := Aside0.mk (HL2.out.trans hl3)
      clear hb3 hl3 HB2 HL2
      go_wp2_with fail
      go_roundg (l.length - (i + 1))
      case measure => have := HE.out; omega
      case rel => exact ⟨i + 1, by go_num, ⟨by have := HE.out; omega⟩, HB3, HL3⟩
    · have hb1 : decide ((i : Int) < (l.length : Int)) = false := decide_eq_false (by omega)
      have HB2 : Aside0 (Bld N B (hexL l) wr) := ⟨by have := HB.out; rwa [List.take_of_length_le (by omega)] at this⟩
      clear HB
      go_wp2_with fail
      refine (string_calls N B _ wr (hexL_bytes HBY.out) HB2.out).mono ?_
      rintro e w2 ⟨rfl, hb2⟩
      have HB3 := Aside0.mk (HBW.out.trans (hb2.mono HNB.out.2))
      clear hb2
      go_wp2
      go_ret
      exact ⟨rfl, HB3.out⟩
end Go.Proofs.Ytocpcnmnhckcpaa.Prt
namespace Go.Proofs.Ytocpcnmnhckcpaa.Prt
open Go.RowKit Go.Proofs.YtocpcnmnhckcpaaW.PrintWords Go.Proofs.YtocpcnmnhckcpaaW.PrintLast Go.Proofs.YtocpcnmnhckcpaaW.PrintMore Go.Proofs.Ytocpcnmnhckcpaa.Num Go.Proofs.Ytocpcnmnhckcpaa.Nam
set_option linter.unusedVariables false
set_option linter.unusedSimpArgs false

/-- What a call leaves that was handed a reader: the reader, its bytes, the rest of the memory. -/
structure Lv (w w' : World) (P : Nat → Prop) (g : Nat) (n : Nat) (q : List Int × Bool) : Prop where
  rd : Rd 98 P w' g q.1 q.2
  by_ : isBytes q.1
  len : q.1.length ≤ n
  below : Below g w w'
  keep : KeepBut w w' g none
theorem Lv.trans {w w1 w2 : World} {P : Nat → Prop} {g n n1 : Nat} {q q1 : List Int × Bool} (h : Lv w w1 P g n q) (k : Lv w1 w2 P g n1 q1) (hn : n1 ≤ n) : Lv w w2 P g n q1 := ⟨k.rd, k.by_, Nat.le_trans k.len hn, h.below.trans k.below, h.keep.trans k.keep (.inl rfl)⟩
theorem Lv.up {w w1 w2 : World} {P : Nat → Prop} {g n : Nat} {q : List Int × Bool} (h : Lv w w1 P g n q) (hb : Below w1.heap.size w1 w2) : Lv w w2 P g n q := ⟨h.rd.below hb, h.by_, h.len, h.below.trans (hb.mono (Nat.le_of_lt h.rd.lt)), h.keep.trans (KeepBut.of_below hb g none) (.inl rfl)⟩
theorem Lv.set {w w1 : World} {P : Nat → Prop} {g n : Nat} {q : List Int × Bool} (h : Lv w w1 P g n q) (hg : g < w.heap.size) (hP : ∀ k, P k → k < w.heap.size) {Q : Nat} (hQ : w.heap.size ≤ Q) (i : Nat) (u : Value) : Lv w (w1.setCell ⟨Q, i, none⟩ u) P g n q :=
  ⟨h.rd.kept ((KeepBut.refl w1 Q none).set_ i _) (by omega) (fun hp => by have := hP Q hp; omega), h.by_, h.len, h.below.setCell (p := ⟨Q, i, none⟩) (by show g ≤ Q; omega) _, keep_far h.keep hQ _⟩
theorem Lv.grown {w w1 w2 : World} {P : Nat → Prop} {g n : Nat} {q : List Int × Bool} {v : Value} (h : Lv w w1 P g n q) (hg : g < w.heap.size) (hP : ∀ k, P k → k < w.heap.size) (hgr : w1.grownBy w2 v.ownBlock) (hv : ∀ k, v.ownBlock = some k → w.heap.size ≤ k) (hb : Below g w w2) : Lv w w2 P g n q := by
  refine ⟨h.rd.grown hgr (ne_base hv hg) (fun k hk => ne_base hv (hP k hk)), h.by_, h.len, hb, ?_⟩
  refine ⟨Nat.le_trans h.keep.1 hgr.size, fun i hi hne hr => ?_⟩
  rw [← h.keep.2 i hi hne hr]
  exact hgr.block i (Nat.lt_of_lt_of_le hi h.keep.1) (fun e => by have := hv i e.symm; omega)
theorem takeN_ok {α : Type} {step : Stp α} {n : Nat} {l : List Int} {b : Bool} {acc : List α} {x : α} {l' : List Int} {b' : Bool} (h : step l b = ((x, true), l', b')) (hb : b' = false) : takeN step (n + 1) l b acc = takeN step n l' b' (acc ++ [x]) := by
  rw [takeN, h, if_neg (by rw [hb]; simp)]
theorem takeN_no {α : Type} {step : Stp α} {n : Nat} {l : List Int} {b : Bool} {acc : List α} {x : α} {ok : Bool} {l' : List Int} {b' : Bool} (h : step l b = ((x, ok), l', b')) (hb : ok = false ∨ b' = true) : takeN step (n + 1) l b acc = (([], false), l', b') := by
  rw [takeN, h, if_pos hb]
theorem takenStr_calls (step : Stp ByteArray) (most : Int) (G : Nat) (q1 : Value) (P : Nat → Prop) (w : World) (g : Nat) (l : List Int) (bad : Bool) (hI : Rd 98 P w g l bad) (hb : isBytes l) (hP : ∀ k, P k → k < w.heap.size) (hm0 : 0 ≤ most) (hm1 : most ≤ 1000)
    (hent : ∀ (xs : Array Value) (W : World), (callFunc G xs).run Try.prog W = .ok (.enter G xs) W)
    (hs : ∀ w1 l1 b1, Lv w w1 P g l.length (l1, b1) → Calls Try.prog G #[q1] w1 fun e w2 => e = .returned (.tuple #[.string (step l1 b1).1.1, .bool (step l1 b1).1.2]) ∧ Lv w1 w2 P g l1.length (step l1 b1).2)
    (r : (List ByteArray × Bool) × List Int × Bool) (hr : takeL step most l bad = r) :
    Calls Try.prog 55 #[.pointer (some ⟨g, 0, none⟩), .int .i64 most, .func (.func G) #[] #[q1]] w fun e w' =>
      ∃ v, e = .returned (.tuple #[v, .bool r.1.2]) ∧ Kd.string.R 9 w' w.heap.size (fun _ => True) v r.1.1 ∧ Lv w w' P g l.length r.2 := by
  obtain ⟨x, hx⟩ : ∃ x, numOf l = x := ⟨_, rfl⟩
  have hri := numOf_i64 hb
  rw [hx] at hri
  obtain ⟨hr1, hr2⟩ := hri
  unfold takeL at hr
  rw [hx] at hr
  have HN := Aside0.mk (num_calls' x P w g l bad hI hb hx)
  have HAB := Aside0.mk (And.intro (aft_bytes hb) (aft_len l hb))
  have HS := Aside0.mk hs
  have HPP := Aside0.mk hP
  have HGW := Aside0.mk hI.lt
  have HR := Aside0.mk hr
  clear hI hb hs hx hP hr
  by_cases hneg : x < 0
  · have hd : decide (x < 0) = true := decide_eq_true hneg
    go_enter Try.func55, Try.ntmps55
    go_wp2_with fail
    refine HN.out.mono ?_
    rintro e w1 ⟨rfl, hI1, hb1, hk1⟩
    have n1_ := Aside0.mk (Lv.mk (n := l.length) (q := (aft l, badOf l bad)) hI1 HAB.out.1 HAB.out.2 hb1 hk1)
    clear hI1 hb1 hk1
    go_wp2
    go_ret2
    rw [← HR.out, if_pos (.inl hneg)]
    exact ⟨_, rfl, Kd.R_nil _ _ _ _ _, n1_.out⟩
  have hd : decide (x < 0) = false := decide_eq_false hneg
  by_cases hbig : most < x
  · have hd2 : decide (most < x) = true := decide_eq_true hbig
    go_enter Try.func55, Try.ntmps55
    go_wp2_with fail
    refine HN.out.mono ?_
    rintro e w1 ⟨rfl, hI1, hb1, hk1⟩
    have n1_ := Aside0.mk (Lv.mk (n := l.length) (q := (aft l, badOf l bad)) hI1 HAB.out.1 HAB.out.2 hb1 hk1)
    clear hI1 hb1 hk1
    go_wp2
    go_ret2
    rw [← HR.out, if_pos (.inr hbig)]
    exact ⟨_, rfl, Kd.R_nil _ _ _ _ _, n1_.out⟩
  have hd2 : decide (most < x) = false := decide_eq_false hbig
  obtain ⟨n, rfl⟩ := Int.eq_ofNat_of_zero_le (Int.not_lt.1 hneg)
  have HR2 := Aside0.mk ((if_neg (by omega : ¬ ((n : Int) < 0 ∨ most < (n : Int)))).symm.trans HR.out)
  rw [Int.toNat_natCast] at HR2
  clear HR
  go_enter Try.func55, Try.ntmps55
  go_wp2_with fail
  refine HN.out.mono ?_
  rintro e w1 ⟨rfl, hI1, hb1, hk1⟩
  have n1_ := Aside0.mk (Lv.mk (n := l.length) (q := (aft l, badOf l bad)) hI1 HAB.out.1 HAB.out.2 hb1 hk1)
  clear hI1 hb1 hk1 HN
  go_wp2
  go_loopg [9, 22] n (fun k v9 v22 w' => ∃ (i : Nat) (l1 : List Int) (b1 : Bool) (acc : List ByteArray), v22 = .int .i64 (i : Int) ∧ Aside0 (i + k = n) ∧ Aside0 (acc.length = i) ∧ Aside0 (takeN step k l1 b1 acc = r) ∧ Aside0 (Kd.string.R 9 w' w.heap.size (fun _ => True) v9 acc) ∧ Aside0 (Lv w w' P g l.length (l1, b1)))
  case atStart => exact ⟨0, _, _, [], rfl, ⟨by omega⟩, ⟨rfl⟩, HR2, ⟨Kd.R_nil _ _ _ _ _⟩, n1_⟩
  case round =>
    clear HR2 n1_
    obtain ⟨i, l1, b1, acc, rfl, HE, HAL, HR, HO, HL⟩ := hrel
    obtain ⟨A9, c9, e9⟩ := Kd.R_slice HO.out
    subst e9
    by_cases hlt : i < n
    · have hb1 : decide ((i : Int) < (n : Int)) = true := decide_eq_true (by omega)
      obtain ⟨k, rfl⟩ : ∃ m, gk = m + 1 := ⟨gk - 1, by have := HE.out; omega⟩
      have HC := Aside0.mk (HS.out wr l1 b1 HL.out)
      obtain ⟨⟨⟨y, ok⟩, l2, b2⟩, hq⟩ : ∃ q, step l1 b1 = q := ⟨_, rfl⟩
      rw [hq] at HC
      have HQ := Aside0.mk hq
      clear hq
      go_wp2_with fail
      refine HC.out.mono ?_
      rintro e w2 ⟨rfl, hl2⟩
      have HO2 := Aside0.mk (R_off' HO.out HGW.out hl2.keep)
      have HL2 := Aside0.mk (HL.out.trans hl2 HL.out.len)
      clear hl2 HO HL HC
      cases ok with
      | false =>
        have HR3 := Aside0.mk ((takeN_no HQ.out (.inl rfl)).symm.trans HR.out)
        clear HQ HR
        go_wp2_with fail
        go_ret2
        rw [← HR3.out]
        exact ⟨_, rfl, Kd.R_nil _ _ _ _ _, HL2.out⟩
      | true =>
        go_wp2_with fail
        refine (bad_calls P w2 g l2 b2 HL2.out.rd).mono ?_
        rintro e w3 ⟨rfl, rfl⟩
        cases b2 with
        | true =>
          have HR3 := Aside0.mk ((takeN_no HQ.out (.inr rfl)).symm.trans HR.out)
          clear HQ HR
          go_wp2_with fail
          go_ret2
          rw [← HR3.out]
          exact ⟨_, rfl, Kd.R_nil _ _ _ _ _, HL2.out⟩
        | false =>
          have HR3 := Aside0.mk ((takeN_ok HQ.out rfl).symm.trans HR.out)
          clear HQ HR
          have hlen : acc.length ≤ 1000 := by have := HAL.out; omega
          go_wp2_with (first | ((with_reducible refine gate_builtin (b := .append) (xs := #[.tmp 35, .tmp 37]) rfl ?_); at_builtin; refine Kd.R_append Kd.string (w0 := w2) w.heap.size rfl (.tmp 35) (.tmp 37) 28 9 (.string ⟨#[]⟩) 16 rfl Try.underlying28 info_str rfl (by decide) (by omega) (.slice A9 acc.length c9) acc y [.string y] (fun _ => True) (fun _ => False) rfl rfl rfl (fun _ hk => hk.elim) (fun _ _ => trivial) HO2.out (Below.refl _ _) HL2.out.keep.1 (by omega) ?_; intro v w5 ho hb hg hat; have HO5 := Aside0.mk ho; have HL5 := Aside0.mk (HL2.out.grown HGW.out HPP.out hg (Kd.R_base HO2.out) (HL2.out.below.trans (hb.mono (Nat.le_of_lt HGW.out)))); clear ho hb hg hat))
          go_roundg k
          case measure => omega
          case rel => exact ⟨i + 1, l2, false, acc ++ [y], by go_num, ⟨by have := HE.out; omega⟩, ⟨by have := HAL.out; rw [List.length_append, List.length_singleton]; omega⟩, HR3, HO5, HL5⟩
    · have hb1 : decide ((i : Int) < (n : Int)) = false := decide_eq_false (by omega)
      have hk0 : gk = 0 := by have := HE.out; omega
      subst hk0
      go_wp2_with fail
      refine (bad_calls P wr g l1 b1 HL.out.rd).mono ?_
      rintro e w3 ⟨rfl, rfl⟩
      go_wp2
      go_ret2
      rw [← HR.out]
      exact ⟨_, rfl, HO.out, HL.out⟩
end Go.Proofs.Ytocpcnmnhckcpaa.Prt
namespace Go.Proofs.Ytocpcnmnhckcpaa.Prt
open Go.RowKit Go.Proofs.YtocpcnmnhckcpaaW.PrintWords Go.Proofs.YtocpcnmnhckcpaaW.PrintLast Go.Proofs.YtocpcnmnhckcpaaW.PrintMore Go.Proofs.Ytocpcnmnhckcpaa.Num Go.Proofs.Ytocpcnmnhckcpaa.Nam
set_option linter.unusedVariables false
set_option linter.unusedSimpArgs false
theorem S_turnG {α : Type} {d : Kd α} {e : Nat} {w w1 : World} {base g t : Nat} {v : Value} {xs : List α} {cells : Array Value} (h : Kd.S d e w base (fun _ => True) v xs) (hb : w.heap[g]? = some (.cells cells t (0, 0))) (ht : ∀ q, q ∈ e :: d.E → q ≠ t) (hk : KeepBut w w1 g none) : Kd.S d e w1 base (fun k => k < w.heap.size) v xs :=
  Kd.S_mono (Kd.S_keep (Kd.S_bound (Kd.S_types h hb ht)) hk (fun k hk => hk.1.2)) (fun k hk => hk.2.2.1)
theorem R_setA {α : Type} {d : Kd α} {e N t E : Nat} {w : World} {v : Value} {l : List α} (h : Kd.R d e w N (fun _ => True) v l) (hb : ∃ cells, w.heap[E]? = some (.cells cells t (0, 0))) (ht : ∀ q, q ∈ e :: d.E → q ≠ t) (i : Nat) (u : Value) : Kd.R d e (w.setCell ⟨E, i, none⟩ u) N (fun _ => True) v l ∧ ∃ cells, (w.setCell ⟨E, i, none⟩ u).heap[E]? = some (.cells cells t (0, 0)) := by
  obtain ⟨cells, hb⟩ := hb
  exact ⟨R_set h hb ht i u, _, blk_set hb i u⟩
theorem R_setA2 {α : Type} {d : Kd α} {e N t E : Nat} {w : World} {v : Value} {l : List α} {cells : Array Value} (h : Kd.R d e w N (fun _ => True) v l) (hb : w.heap[E]? = some (.cells cells t (0, 0))) (ht : ∀ q, q ∈ e :: d.E → q ≠ t) (u0 u1 : Value) : Kd.R d e ((w.setCell ⟨E, 0, none⟩ u0).setCell ⟨E, 1, none⟩ u1) N (fun _ => True) v l :=
  (R_setA (R_setA h ⟨_, hb⟩ ht 0 u0).1 (R_setA h ⟨_, hb⟩ ht 0 u0).2 ht 1 u1).1
theorem info_cla : (Try.prog.info? 92).map (fun i => (i.zero, i.size, i.bytes)) = some (some (.agg #[.slice none 0 0, .slice none 0 0]), 2, 48) := by kernel_rfl
theorem takenCla_calls (step : Stp S92) (most : Int) (G : Nat) (q1 q2 : Value) (P : Nat → Prop) (w : World) (g : Nat) (l : List Int) (bad : Bool) (hI : Rd 98 P w g l bad) (hb : isBytes l) (hP : ∀ k, P k → k < w.heap.size) (hm0 : 0 ≤ most) (hm1 : most ≤ 1000)
    (hent : ∀ (xs : Array Value) (W : World), (callFunc G xs).run Try.prog W = .ok (.enter G xs) W)
    (hs : ∀ w1 l1 b1, Lv w w1 P g l.length (l1, b1) → Calls Try.prog G #[q1, q2] w1 fun e w2 => ∃ v0 v1, e = .returned (.tuple #[.agg #[v0, v1], .bool (step l1 b1).1.2]) ∧ Kd.string.R 9 w2 w1.heap.size (fun _ => True) v0 (step l1 b1).1.1.f0 ∧ Kd.string.R 9 w2 w1.heap.size (fun _ => True) v1 (step l1 b1).1.1.f1 ∧ Lv w1 w2 P g l1.length (step l1 b1).2)
    (r : (List S92 × Bool) × List Int × Bool) (hr : takeL step most l bad = r) :
    Calls Try.prog 53 #[.pointer (some ⟨g, 0, none⟩), .int .i64 most, .func (.func G) #[] #[q1, q2]] w fun e w' =>
      ∃ v, e = .returned (.tuple #[v, .bool r.1.2]) ∧ Kd.S k92 92 w' w.heap.size (fun _ => True) v r.1.1 ∧ Lv w w' P g l.length r.2 := by
  obtain ⟨x, hx⟩ : ∃ x, numOf l = x := ⟨_, rfl⟩
  have hri := numOf_i64 hb
  rw [hx] at hri
  obtain ⟨hr1, hr2⟩ := hri
  unfold takeL at hr
  rw [hx] at hr
  have HN := Aside0.mk (num_calls' x P w g l bad hI hb hx)
  have HAB := Aside0.mk (And.intro (aft_bytes hb) (aft_len l hb))
  have HS := Aside0.mk hs
  have HPP := Aside0.mk hP
  have HGW := Aside0.mk hI.lt
  have HR := Aside0.mk hr
  clear hI hb hs hx hP hr
  have hu92 := Try.underlying92
  by_cases hneg : x < 0
  · have hd : decide (x < 0) = true := decide_eq_true hneg
    go_enter Try.func53, Try.ntmps53
    go_wp2_with fail
    refine HN.out.mono ?_
    rintro e w1 ⟨rfl, hI1, hb1, hk1⟩
    have n1_ := Aside0.mk (Lv.mk (n := l.length) (q := (aft l, badOf l bad)) hI1 HAB.out.1 HAB.out.2 hb1 hk1)
    clear hI1 hb1 hk1
    go_wp2
    go_ret2
    rw [← HR.out, if_pos (.inl hneg)]
    exact ⟨_, rfl, Kd.S_nil _ _ _ _ _, n1_.out⟩
  have hd : decide (x < 0) = false := decide_eq_false hneg
  by_cases hbig : most < x
  · have hd2 : decide (most < x) = true := decide_eq_true hbig
    go_enter Try.func53, Try.ntmps53
    go_wp2_with fail
    refine HN.out.mono ?_
    rintro e w1 ⟨rfl, hI1, hb1, hk1⟩
    have n1_ := Aside0.mk (Lv.mk (n := l.length) (q := (aft l, badOf l bad)) hI1 HAB.out.1 HAB.out.2 hb1 hk1)
    clear hI1 hb1 hk1
    go_wp2
    go_ret2
    rw [← HR.out, if_pos (.inr hbig)]
    exact ⟨_, rfl, Kd.S_nil _ _ _ _ _, n1_.out⟩
  have hd2 : decide (most < x) = false := decide_eq_false hbig
  obtain ⟨n, rfl⟩ := Int.eq_ofNat_of_zero_le (Int.not_lt.1 hneg)
  have HR2 := Aside0.mk ((if_neg (by omega : ¬ ((n : Int) < 0 ∨ most < (n : Int)))).symm.trans HR.out)
  rw [Int.toNat_natCast] at HR2
  clear HR
  go_enter Try.func53, Try.ntmps53
  go_wp2_with fail
  refine HN.out.mono ?_
  rintro e w1 ⟨rfl, hI1, hb1, hk1⟩
  have n1_ := Aside0.mk (Lv.mk (n := l.length) (q := (aft l, badOf l bad)) hI1 HAB.out.1 HAB.out.2 hb1 hk1)
  clear hI1 hb1 hk1 HN
  go_wp2
  go_loopg [9, 22] n (fun k v9 v22 w' => ∃ (i : Nat) (l1 : List Int) (b1 : Bool) (acc : List S92), v22 = .int .i64 (i : Int) ∧ Aside0 (i + k = n) ∧ Aside0 (acc.length = i) ∧ Aside0 (takeN step k l1 b1 acc = r) ∧ Aside0 (Kd.S k92 92 w' w.heap.size (fun _ => True) v9 acc) ∧ Aside0 (Lv w w' P g l.length (l1, b1)))
  case atStart => exact ⟨0, _, _, [], rfl, ⟨by omega⟩, ⟨rfl⟩, HR2, ⟨Kd.S_nil _ _ _ _ _⟩, n1_⟩
  case round =>
    clear HR2 n1_
    obtain ⟨i, l1, b1, acc, rfl, HE, HAL, HR, HO, HL⟩ := hrel
    obtain ⟨A9, c9, e9⟩ := Kd.S_slice HO.out
    subst e9
    by_cases hlt : i < n
    · have hb1 : decide ((i : Int) < (n : Int)) = true := decide_eq_true (by omega)
      obtain ⟨k, rfl⟩ : ∃ m, gk = m + 1 := ⟨gk - 1, by have := HE.out; omega⟩
      have HC := Aside0.mk (HS.out wr l1 b1 HL.out)
      obtain ⟨⟨⟨y, ok⟩, l2, b2⟩, hq⟩ : ∃ q, step l1 b1 = q := ⟨_, rfl⟩
      rw [hq] at HC
      have HQ := Aside0.mk hq
      clear hq
      go_wp2_with fail
      refine HC.out.mono ?_
      rintro e w2 ⟨v0, v1, rfl, h0, h1, hl2⟩
      have HO2 : Aside0 (Kd.S k92 92 w2 w.heap.size (fun k => k < wr.heap.size) (.slice A9 acc.length c9) acc) := ⟨by
        obtain ⟨A', c', hblk, _⟩ := HL.out.rd
        exact S_turnG HO.out hblk (by decide) hl2.keep⟩
      have HL2 := Aside0.mk (HL.out.trans hl2 HL.out.len)
      have HSZ := Aside0.mk (And.intro hl2.keep.1 HL.out.keep.1)
      have H0 := Aside0.mk h0
      have H1 := Aside0.mk h1
      clear hl2 HO HL HC h0 h1
      obtain ⟨A0, c0, e0⟩ := Kd.R_slice H0.out
      subst e0
      obtain ⟨A1, c1, e1⟩ := Kd.R_slice H1.out
      subst e1
      go_upto_region 8 with (first | ((with_reducible refine gate_dst (N := 10) rfl ?_); (try (refine gate_guard (by rfl) ?_; dsimp only)); refine box_event ?hg (N := 10) ?hd (cs := #[.slice none 0 0, .slice none 0 0]) (t := 92) ?hr ?_; (case hd => rfl); (case hg => rfl); (case hr => first | (go_simp; done) | (go_simp; rfl)); intro B hg_ w3 hbox_ hb_; have HBX := Aside0.mk hbox_; have HBN := Aside0.mk hg_; have HBB := Aside0.mk hb_; clear hbox_ hg_ hb_; have hq0 := blk_cell HBX.out 0; have hf0 := blk_frozen HBX.out 0; have hq1 := blk_cell HBX.out 1; have hf1 := blk_frozen HBX.out 1))
      have HBG : Aside0 (wr.heap.size ≤ B ∧ w.heap.size ≤ B) := ⟨by have := HBN.out; have := HSZ.out.1; have := HSZ.out.2; omega⟩
      have n1_ := Aside0.mk (Kd.S_far (p := ⟨B, 1, none⟩) (Kd.S_far (p := ⟨B, 0, none⟩) (Kd.S_below HO2.out HBB.out) (fun k hk => by have := HBG.out.1; show k ≠ B; omega) (.slice A0 y.f0.length c0)) (fun k hk => by have := HBG.out.1; show k ≠ B; omega) (.slice A1 y.f1.length c1))
      have n4_ := Aside0.mk ((((HL2.out.up HBB.out).set HGW.out HPP.out HBG.out.2 0 (.slice A0 y.f0.length c0)).set HGW.out HPP.out HBG.out.2 1 (.slice A1 y.f1.length c1)))
      have n6_ := Aside0.mk ((blk_put (cs' := #[.slice A0 y.f0.length c0, .slice A1 y.f1.length c1]) (blk_put (cs' := #[.slice A0 y.f0.length c0, .slice none 0 0]) HBX.out 0 (.slice A0 y.f0.length c0) rfl) 1 (.slice A1 y.f1.length c1) rfl))
      have r0_ := Aside0.mk (R_setA2 (Kd.R_below H0.out HBB.out) HBX.out (by decide) (.slice A0 y.f0.length c0) (.slice A1 y.f1.length c1))
      have r1_ := Aside0.mk (R_setA2 (Kd.R_below H1.out HBB.out) HBX.out (by decide) (.slice A0 y.f0.length c0) (.slice A1 y.f1.length c1))
      clear H0 H1
      have HW3 := Aside0.mk (Nat.le_trans HSZ.out.1 HBB.out.size)
      clear HO2 HL2 HBX HBN HBB hq0 hf0 hq1 hf1
      generalize (w3.setCell ⟨B, 0, none⟩ (.slice A0 y.f0.length c0)).setCell ⟨B, 1, none⟩ (.slice A1 y.f1.length c1) = w4 at n1_ n4_ n6_ r0_ r1_ ⊢
      cases ok with
      | false =>
        have HR3 := Aside0.mk ((takeN_no HQ.out (.inl rfl)).symm.trans HR.out)
        clear HQ HR
        go_wp2_with fail
        go_ret2
        rw [← HR3.out]
        exact ⟨_, rfl, Kd.S_nil _ _ _ _ _, n4_.out⟩
      | true =>
        go_wp2_with fail
        refine (bad_calls P w4 g l2 b2 n4_.out.rd).mono ?_
        rintro e w5 ⟨rfl, rfl⟩
        cases b2 with
        | true =>
          have HR3 := Aside0.mk ((takeN_no HQ.out (.inr rfl)).symm.trans HR.out)
          clear HQ HR
          go_wp2_with fail
          go_ret2
          rw [← HR3.out]
          exact ⟨_, rfl, Kd.S_nil _ _ _ _ _, n4_.out⟩
        | false =>
          have HR3 := Aside0.mk ((takeN_ok HQ.out rfl).symm.trans HR.out)
          clear HQ HR
          have hlen : acc.length ≤ 1000 := by have := HAL.out; omega
          have hq0 := blk_cell n6_.out 0
          have hq1 := blk_cell n6_.out 1
          have HAP : Aside0 (∀ k, wr.heap.size ≤ k → True ∧ some k ≠ (Value.slice A9 acc.length c9).ownBlock) := ⟨fun k hk => ⟨trivial, fun e_ => by have h_ := (Kd.S_R n1_.out).1 k e_.symm; omega⟩⟩
          have HAQ : Aside0 (Kd.S k92 92 w4 w.heap.size (fun k => True ∧ ¬ wr.heap.size ≤ k) (.slice A9 acc.length c9) acc) := ⟨Kd.S_mono n1_.out (fun k hk => ⟨trivial, by omega⟩)⟩
          have HMK : Aside0 ((k92).M w4 w.heap.size (fun k => wr.heap.size ≤ k) y [.slice A0 y.f0.length c0, .slice A1 y.f1.length c1]) := ⟨k92_mkM _ _ _ y (Kd.R_lower (Kd.R_mono (Kd.R_bound r0_.out) (fun k hk => hk.2.1)) HSZ.out.2) (Kd.R_lower (Kd.R_mono (Kd.R_bound r1_.out) (fun k hk => hk.2.1)) HSZ.out.2)⟩
          go_wp2_with (first | ((with_reducible refine gate_builtin (b := .append) (xs := #[.tmp 35, .tmp 37]) rfl ?_); at_builtin; refine Kd.S_append k92 (w0 := w4) w.heap.size rfl (.tmp 35) (.tmp 37) 32 92 (.agg #[.slice none 0 0, .slice none 0 0]) 48 rfl Try.underlying32 info_cla rfl (by decide) (by omega) (.slice A9 acc.length c9) acc y [.slice A0 y.f0.length c0, .slice A1 y.f1.length c1] (fun _ => True) (fun k => wr.heap.size ≤ k) rfl rfl HMK.out HAP.out (fun _ _ => trivial) HAQ.out (Below.refl _ _) n4_.out.keep.1 (by omega) ?_; intro v w6 ho hb hg hat; have HO5 := Aside0.mk ho; have HL5 := Aside0.mk (n4_.out.grown HGW.out HPP.out hg (Kd.S_base n1_.out) (n4_.out.below.trans (hb.mono (Nat.le_of_lt HGW.out)))); clear ho hb hg hat))
          go_roundg k
          case measure => omega
          case rel => exact ⟨i + 1, l2, false, acc ++ [y], by go_num, ⟨by have := HE.out; omega⟩, ⟨by have := HAL.out; rw [List.length_append, List.length_singleton]; omega⟩, HR3, HO5, HL5⟩
    · have hb1 : decide ((i : Int) < (n : Int)) = false := decide_eq_false (by omega)
      have hk0 : gk = 0 := by have := HE.out; omega
      subst hk0
      go_wp2_with fail
      refine (bad_calls P wr g l1 b1 HL.out.rd).mono ?_
      rintro e w3 ⟨rfl, rfl⟩
      go_wp2
      go_ret2
      rw [← HR.out]
      exact ⟨_, rfl, HO.out, HL.out⟩
end Go.Proofs.Ytocpcnmnhckcpaa.Prt
namespace Go.Proofs.Ytocpcnmnhckcpaa.Prt
open Go.RowKit Go.Proofs.YtocpcnmnhckcpaaW.PrintWords Go.Proofs.YtocpcnmnhckcpaaW.PrintLast Go.Proofs.YtocpcnmnhckcpaaW.PrintMore Go.Proofs.Ytocpcnmnhckcpaa.Num Go.Proofs.Ytocpcnmnhckcpaa.Nam
set_option linter.unusedVariables false
set_option linter.unusedSimpArgs false

theorem textClo_calls (P : Nat → Prop) (w : World) (g Rb : Nat) (l : List Int) (b : Bool) (hR : w.heap[Rb]? = some (.cells #[.pointer (some ⟨g, 0, none⟩)] 70 (0, 0))) (hI : Rd 98 P w g l b) (hb : isBytes l) :
    Calls Try.prog 52 #[.pointer (some ⟨Rb, 0, none⟩)] w fun e w' => e = .returned (.tuple #[.string (stepT l b).1.1, .bool (stepT l b).1.2]) ∧ Lv w w' P g l.length (stepT l b).2 := by
  have hr0 := blk_cell hR 0
  have HT := Aside0.mk (text_calls P w g l b hI hb)
  have HBY := Aside0.mk (And.intro (aftT_bytes hb) (aftT_len l hb))
  clear hR hI hb
  go_enter Try.func52, Try.ntmps52
  go_wp2_with fail
  refine HT.out.mono ?_
  rintro e w1 ⟨rfl, hI, hb, hk⟩
  have n1_ := Aside0.mk (Lv.mk (n := l.length) (q := (aftT l, badT l b)) hI HBY.out.1 HBY.out.2 hb hk)
  clear hI hb hk
  go_wp2
  go_ret2
  exact ⟨rfl, n1_.out⟩
theorem texts_calls (P : Nat → Prop) (w : World) (g Rb : Nat) (l : List Int) (b : Bool) (hR : w.heap[Rb]? = some (.cells #[.pointer (some ⟨g, 0, none⟩)] 70 (0, 0))) (hne : Rb ≠ g) (hI : Rd 98 P w g l b) (hb : isBytes l) (hP : ∀ k, P k → k < w.heap.size) (r : (List ByteArray × Bool) × List Int × Bool) (hr : takeL stepT 4 l b = r) :
    Calls Try.prog 55 #[.pointer (some ⟨g, 0, none⟩), .int .i64 4, .func (.func 52) #[] #[.pointer (some ⟨Rb, 0, none⟩)]] w fun e w' =>
      ∃ v, e = .returned (.tuple #[v, .bool r.1.2]) ∧ Kd.string.R 9 w' w.heap.size (fun _ => True) v r.1.1 ∧ Lv w w' P g l.length r.2 :=
  takenStr_calls stepT 4 52 _ P w g l b hI hb hP (by decide) (by decide) (enters_of Try.func52 (by kernel_rfl) rfl) (fun w1 l1 b1 hL => textClo_calls P w1 g Rb l1 b1 (hL.keep.blk hR hne (by simp)) hL.rd hL.by_) r hr
theorem claClo_calls (P : Nat → Prop) (w : World) (g Rb Tb : Nat) (l : List Int) (b : Bool) (hR : w.heap[Rb]? = some (.cells #[.pointer (some ⟨g, 0, none⟩)] 70 (0, 0))) (hT : w.heap[Tb]? = some (.cells #[.func (.func 52) #[] #[.pointer (some ⟨Rb, 0, none⟩)]] 100 (0, 0))) (hne : Rb ≠ g) (hnt : Tb ≠ g) (hI : Rd 98 P w g l b) (hb : isBytes l) (hP : ∀ k, P k → k < w.heap.size) :
    Calls Try.prog 54 #[.pointer (some ⟨Rb, 0, none⟩), .pointer (some ⟨Tb, 0, none⟩)] w fun e w' => ∃ v0 v1, e = .returned (.tuple #[.agg #[v0, v1], .bool (stepC l b).1.2]) ∧ Kd.string.R 9 w' w.heap.size (fun _ => True) v0 (stepC l b).1.1.f0 ∧ Kd.string.R 9 w' w.heap.size (fun _ => True) v1 (stepC l b).1.1.f1 ∧ Lv w w' P g l.length (stepC l b).2 := by
  obtain ⟨⟨⟨m0, ok0⟩, l1, b1⟩, hq0⟩ : ∃ q, takeL stepT 4 l b = q := ⟨_, rfl⟩
  obtain ⟨⟨⟨m1, ok1⟩, l2, b2⟩, hq1⟩ : ∃ q, takeL stepT 4 l1 b1 = q := ⟨_, rfl⟩
  have HST : Aside0 (stepC l b = if ok0 = false then ((⟨m0, []⟩, false), (l1, b1)) else ((⟨m0, m1⟩, ok1), (l2, b2))) := ⟨by unfold stepC; rw [hq0]; simp only; rw [hq1]⟩
  have HR := Aside0.mk hR
  have HT := Aside0.mk hT
  have HNE := Aside0.mk (And.intro hne hnt)
  have HGW := Aside0.mk hI.lt
  have HPP := Aside0.mk hP
  have HL0 := Aside0.mk (Lv.mk (n := l.length) (q := (l, b)) hI hb (Nat.le_refl _) (Below.refl g w) (KeepBut.refl w g none))
  have HQ0 := Aside0.mk hq0
  have HQ1 := Aside0.mk hq1
  clear hR hT hne hnt hI hb hP hq0 hq1
  have hu92 := Try.underlying92
  go_enter Try.func54, Try.ntmps54
  go_upto_region 1 with (first | ((with_reducible refine gate_dst (N := 2) rfl ?_); (try (refine gate_guard (by rfl) ?_; dsimp only)); refine box_event ?hg (N := 2) ?hd (cs := #[.slice none 0 0, .slice none 0 0]) (t := 92) ?hr ?_; (case hd => rfl); (case hg => rfl); (case hr => first | (go_simp; done) | (go_simp; rfl)); intro E hg_ w1 hbox_ hb_; have HE := Aside0.mk hbox_; have HEN := Aside0.mk hg_; have HEB := Aside0.mk hb_; clear hbox_ hg_ hb_))
  have HEW := Aside0.mk (show w.heap.size ≤ E by rw [HEN.out]; exact Nat.le_refl _)
  have HEG := Aside0.mk (show E ≠ g by have := HGW.out; have := HEW.out; omega)
  have HR1 := Aside0.mk (blk_below HR.out HEB.out)
  have HT1 := Aside0.mk (blk_below HT.out HEB.out)
  have HL1 := Aside0.mk (HL0.out.up HEB.out)
  have HP1 := Aside0.mk (fun k (hk : P k) => Nat.lt_of_lt_of_le (HPP.out k hk) HEB.out.size)
  have hr0 := blk_cell HR1.out 0
  have ht0 := blk_cell HT1.out 0
  clear HL0 HEN HEB
  go_wp2_with fail
  refine (texts_calls P w1 g Rb l b HR1.out HNE.out.1 HL1.out.rd HL1.out.by_ HP1.out _ HQ0.out).mono ?_
  rintro e w2 ⟨v0, rfl, h0, hL⟩
  obtain ⟨A0, c0, e0⟩ := Kd.R_slice h0
  subst e0
  have H0 := Aside0.mk (Kd.R_lower h0 HL1.out.keep.1)
  have HE2 := Aside0.mk (hL.keep.blk HE.out HEG.out (by simp))
  have HL2 := Aside0.mk (HL1.out.trans hL HL1.out.len)
  clear h0 hL HL1 HP1 HR1 HT1 HE hr0 ht0
  have hq0 := blk_cell HE2.out 0
  have hf0 := blk_frozen HE2.out 0
  go_upto_region 2 with (fail)
  have n0_ := Aside0.mk (R_set H0.out HE2.out (by decide) 0 (.slice A0 m0.length c0))
  have n1_ := Aside0.mk (blk_put (cs' := #[.slice A0 m0.length c0, .slice none 0 0]) HE2.out 0 (.slice A0 m0.length c0) rfl)
  have n2_ := Aside0.mk (HL2.out.set HGW.out HPP.out HEW.out 0 (.slice A0 m0.length c0))
  clear H0 HE2 HL2 hq0 hf0
  generalize w2.setCell ⟨E, 0, none⟩ (.slice A0 m0.length c0) = w3 at n0_ n1_ n2_ ⊢
  cases ok0 with
  | false =>
    have HS2 := Aside0.mk (HST.out.trans (if_pos rfl))
    clear HST
    have hq0 := blk_cell n1_.out 0
    have hq1 := blk_cell n1_.out 1
    have hf0 := blk_frozen n1_.out 0
    have hf1 := blk_frozen n1_.out 1
    go_wp2_with fail
    have HE9 := blk_put (cs' := #[.slice A0 m0.length c0, .slice none 0 0]) (blk_put (cs' := #[.slice A0 m0.length c0, .slice none 0 0]) n1_.out 0 (.slice A0 m0.length c0) rfl) 1 (.slice none 0 0) rfl
    refine bodyPost_ret (results_ct rfl _ _ E 92 _ (0, 0) _ rfl HE9 Try.underlying92 rfl (by kernel_rfl)) rfl ?_
    rw [HS2.out]
    exact ⟨.slice A0 m0.length c0, .slice none 0 0, rfl, R_setA2 n0_.out n1_.out (by decide) _ _, Kd.R_nil _ _ _ _ _, (n2_.out.set HGW.out HPP.out HEW.out 0 _).set HGW.out HPP.out HEW.out 1 _⟩
  | true =>
    have HS2 := Aside0.mk (HST.out.trans (if_neg (by simp)))
    clear HST
    have HR3 := Aside0.mk (n2_.out.keep.blk HR.out HNE.out.1 (by simp))
    have HT3 := Aside0.mk (n2_.out.keep.blk HT.out HNE.out.2 (by simp))
    have hr0 := blk_cell HR3.out 0
    have ht0 := blk_cell HT3.out 0
    go_wp2_with fail
    refine (texts_calls P w3 g Rb l1 b1 HR3.out HNE.out.1 n2_.out.rd n2_.out.by_ (fun k hk => Nat.lt_of_lt_of_le (HPP.out k hk) n2_.out.keep.1) _ HQ1.out).mono ?_
    rintro e w4 ⟨v1, rfl, h1, hL⟩
    obtain ⟨A1, c1, e1⟩ := Kd.R_slice h1
    subst e1
    have H1 := Aside0.mk (Kd.R_lower h1 n2_.out.keep.1)
    have H0 := Aside0.mk (R_off' n0_.out HGW.out hL.keep)
    have HE4 := Aside0.mk (hL.keep.blk n1_.out HEG.out (by simp))
    have HL4 := Aside0.mk (n2_.out.trans hL n2_.out.len)
    clear h1 hL n0_ n1_ n2_ HR3 HT3 hr0 ht0
    have hq1 := blk_cell HE4.out 1
    have hf1 := blk_frozen HE4.out 1
    go_upto_region 5 with (fail)
    have n0_ := Aside0.mk (R_set H0.out HE4.out (by decide) 1 (.slice A1 m1.length c1))
    have n3_ := Aside0.mk (R_set H1.out HE4.out (by decide) 1 (.slice A1 m1.length c1))
    have n1_ := Aside0.mk (blk_put (cs' := #[.slice A0 m0.length c0, .slice A1 m1.length c1]) HE4.out 1 (.slice A1 m1.length c1) rfl)
    have n2_ := Aside0.mk (HL4.out.set HGW.out HPP.out HEW.out 1 (.slice A1 m1.length c1))
    clear H0 H1 HE4 HL4 hq1 hf1
    generalize w4.setCell ⟨E, 1, none⟩ (.slice A1 m1.length c1) = w5 at n0_ n1_ n2_ n3_ ⊢
    have hq0 := blk_cell n1_.out 0
    have hq1 := blk_cell n1_.out 1
    have hf0 := blk_frozen n1_.out 0
    have hf1 := blk_frozen n1_.out 1
    go_wp2_with fail
    have HE9 := blk_put (cs' := #[.slice A0 m0.length c0, .slice A1 m1.length c1]) (blk_put (cs' := #[.slice A0 m0.length c0, .slice A1 m1.length c1]) n1_.out 0 (.slice A0 m0.length c0) rfl) 1 (.slice A1 m1.length c1) rfl
    refine bodyPost_ret (results_ct rfl _ _ E 92 _ (0, 0) _ rfl HE9 Try.underlying92 rfl (by kernel_rfl)) rfl ?_
    rw [HS2.out]
    exact ⟨.slice A0 m0.length c0, .slice A1 m1.length c1, rfl, R_setA2 n0_.out n1_.out (by decide) _ _, R_setA2 n3_.out n1_.out (by decide) _ _, (n2_.out.set HGW.out HPP.out HEW.out 0 _).set HGW.out HPP.out HEW.out 1 _⟩
end Go.Proofs.Ytocpcnmnhckcpaa.Prt
namespace Go.Proofs.Ytocpcnmnhckcpaa.Prt
open Go.RowKit Go.Proofs.YtocpcnmnhckcpaaW.PrintWords Go.Proofs.YtocpcnmnhckcpaaW.PrintLast Go.Proofs.YtocpcnmnhckcpaaW.PrintMore Go.Proofs.Ytocpcnmnhckcpaa.Num Go.Proofs.Ytocpcnmnhckcpaa.Nam
set_option linter.unusedVariables false
set_option linter.unusedSimpArgs false

theorem clauses_calls (P : Nat → Prop) (w : World) (g Rb Tb : Nat) (l : List Int) (b : Bool) (hR : w.heap[Rb]? = some (.cells #[.pointer (some ⟨g, 0, none⟩)] 70 (0, 0))) (hT : w.heap[Tb]? = some (.cells #[.func (.func 52) #[] #[.pointer (some ⟨Rb, 0, none⟩)]] 100 (0, 0))) (hne : Rb ≠ g) (hnt : Tb ≠ g) (hI : Rd 98 P w g l b) (hb : isBytes l) (hP : ∀ k, P k → k < w.heap.size) (r : (List S92 × Bool) × List Int × Bool) (hr : takeL stepC 4 l b = r) :
    Calls Try.prog 53 #[.pointer (some ⟨g, 0, none⟩), .int .i64 4, .func (.func 54) #[] #[.pointer (some ⟨Rb, 0, none⟩), .pointer (some ⟨Tb, 0, none⟩)]] w fun e w' =>
      ∃ v, e = .returned (.tuple #[v, .bool r.1.2]) ∧ Kd.S k92 92 w' w.heap.size (fun _ => True) v r.1.1 ∧ Lv w w' P g l.length r.2 :=
  takenCla_calls stepC 4 54 _ _ P w g l b hI hb hP (by decide) (by decide) (enters_of Try.func54 (by kernel_rfl) rfl) (fun w1 l1 b1 hL => claClo_calls P w1 g Rb Tb l1 b1 (hL.keep.blk hR hne (by simp)) (hL.keep.blk hT hnt (by simp)) hne hnt hL.rd hL.by_ (fun k hk => Nat.lt_of_lt_of_le (hP k hk) hL.keep.1)) r hr
theorem S_turnT {α : Type} {d : Kd α} {e : Nat} {w w1 : World} {base g t : Nat} {v : Value} {xs : List α} {cells : Array Value} (h : Kd.S d e w base (fun _ => True) v xs) (hb : w.heap[g]? = some (.cells cells t (0, 0))) (ht : ∀ q, q ∈ e :: d.E → q ≠ t) (hk : KeepBut w w1 g none) : Kd.S d e w1 base (fun _ => True) v xs := Kd.S_mono (S_turnG h hb ht hk) (fun _ _ => trivial)
theorem takeQ_calls (P : Nat → Prop) (w : World) (g : Nat) (l : List Int) (b : Bool) (hI : Rd 98 P w g l b) (hb : isBytes l) (hP : ∀ k, P k → k < w.heap.size) (r : List S92 × Int × List Int × Bool) (hr : takeQ l b = r) :
    Calls Try.prog 33 #[.pointer (some ⟨g, 0, none⟩)] w fun e w' => ∃ v, e = .returned (.tuple #[.agg #[v], .int .i64 r.2.1]) ∧ Kd.S k92 92 w' w.heap.size (fun _ => True) v r.1 ∧ Lv w w' P g l.length r.2.2 := by
  have HLE := Aside0.mk (takeL_left (stepC_left 9223372036854775807) 4 (by decide) l b hb hI.len)
  obtain ⟨⟨⟨m, ok⟩, l1, b1⟩, hq⟩ : ∃ q, takeL stepC 4 l b = q := ⟨_, rfl⟩
  rw [hq] at HLE
  have HST : Aside0 (r = if ok = false ∨ mayQ m ≠ 0 then ([], 2, (l1, b1)) else (m, 0, (l1, b1))) := ⟨by rw [← hr]; unfold takeQ; rw [hq]⟩
  have HGW := Aside0.mk hI.lt
  have HPP := Aside0.mk hP
  have HL0 := Aside0.mk (Lv.mk (n := l.length) (q := (l, b)) hI hb (Nat.le_refl _) (Below.refl g w) (KeepBut.refl w g none))
  have HQ := Aside0.mk hq
  clear hI hb hP hq hr
  have hu34 := Try.underlying34
  go_enter Try.func33, Try.ntmps33
  go_upto_region 1 with (first | ((with_reducible refine gate_dst (N := 1) rfl ?_); (try (refine gate_guard (by rfl) ?_; dsimp only)); refine box_event ?hg (N := 1) ?hd (cs := #[.pointer (some ⟨g, 0, none⟩)]) (t := 70) ?hr ?_; (case hd => rfl); (case hg => rfl); (case hr => first | (go_simp; done) | (go_simp; rfl)); intro Rb hg_ w1 hbox_ hb_; have HR := Aside0.mk hbox_; have HRN := Aside0.mk hg_; have HRB := Aside0.mk hb_; clear hbox_ hg_ hb_) | ((with_reducible refine gate_dst (N := 2) rfl ?_); (try (refine gate_guard (by rfl) ?_; dsimp only)); refine box_event ?hg (N := 2) ?hd (cs := #[.slice none 0 0]) (t := 34) ?hr ?_; (case hd => rfl); (case hg => rfl); (case hr => first | (go_simp; done) | (go_simp; rfl)); intro Q hg_ w2 hbox_ hb_; have HX := Aside0.mk hbox_; have HXN := Aside0.mk hg_; have HXB := Aside0.mk hb_; clear hbox_ hg_ hb_))
  have HRW := Aside0.mk (show w.heap.size ≤ Rb ∧ w.heap.size ≤ Q ∧ Rb ≠ g by
    have h1 := HRN.out
    have h2 := HXN.out
    have h3 := HRB.out.size
    have h4 := HGW.out
    omega)
  have HR2 := Aside0.mk (blk_below HR.out HXB.out)
  have HL2 := Aside0.mk ((HL0.out.up HRB.out).up HXB.out)
  clear HR HL0 HRN HXN HRB HXB
  have hr0 := blk_cell HR2.out 0
  go_upto_region 3 with (fail)
  go_upto_region 4 with (first | ((with_reducible refine gate_dst (N := 4) rfl ?_); (try (refine gate_guard (by rfl) ?_; dsimp only)); refine box_event ?hg (N := 4) ?hd (cs := #[.nilFunc]) (t := 100) ?hr ?_; (case hd => rfl); (case hg => rfl); (case hr => first | (go_simp; done) | (go_simp; rfl)); intro Tb hg_ w3 hbox_ hb_; have HT := Aside0.mk hbox_; have HTN := Aside0.mk hg_; have HTB := Aside0.mk hb_; clear hbox_ hg_ hb_; have ht0 := blk_cell HT.out 0; have hf0 := blk_frozen HT.out 0))
  have HTW := Aside0.mk (show w.heap.size ≤ Tb ∧ Tb ≠ Rb ∧ Tb ≠ Q ∧ Tb ≠ g by
    have h1 := HTN.out
    have h2 := blk_lt HR2.out
    have h3 := blk_lt HX.out
    have h4 := HL2.out.keep.1
    have h5 := HGW.out
    omega)
  have n1_ := Aside0.mk (blk_far (blk_below HR2.out HTB.out) (Ne.symm HTW.out.2.1) (p := ⟨Tb, 0, none⟩) (.func (.func 52) #[] #[.pointer (some ⟨Rb, 0, none⟩)]))
  have n2_ := Aside0.mk (blk_far (blk_below HX.out HTB.out) (Ne.symm HTW.out.2.2.1) (p := ⟨Tb, 0, none⟩) (.func (.func 52) #[] #[.pointer (some ⟨Rb, 0, none⟩)]))
  have n3_ := Aside0.mk ((HL2.out.up HTB.out).set HGW.out HPP.out HTW.out.1 0 (.func (.func 52) #[] #[.pointer (some ⟨Rb, 0, none⟩)]))
  have n4_ := Aside0.mk (blk_put (cs' := #[.func (.func 52) #[] #[.pointer (some ⟨Rb, 0, none⟩)]]) HT.out 0 (.func (.func 52) #[] #[.pointer (some ⟨Rb, 0, none⟩)]) rfl)
  clear HR2 HX HL2 HT HTN HTB hr0 ht0 hf0
  generalize w3.setCell ⟨Tb, 0, none⟩ (.func (.func 52) #[] #[.pointer (some ⟨Rb, 0, none⟩)]) = w4 at n1_ n2_ n3_ n4_ ⊢
  have HR4 := n1_
  have HX4 := n2_
  have HL4 := n3_
  have HT4 := n4_
  clear n1_ n2_ n3_ n4_
  have hr0 := blk_cell HR4.out 0
  go_wp2_with fail
  refine (clauses_calls P w4 g Rb Tb l b HR4.out HT4.out HRW.out.2.2 HTW.out.2.2.2 HL4.out.rd HL4.out.by_ (fun k hk => Nat.lt_of_lt_of_le (HPP.out k hk) HL4.out.keep.1) _ HQ.out).mono ?_
  rintro e w5 ⟨v, rfl, hS, hL⟩
  obtain ⟨A, c, ev⟩ := Kd.S_slice hS
  subst ev
  have HS5 := Aside0.mk (Kd.S_lower hS HL4.out.keep.1)
  have HX5 := Aside0.mk (hL.keep.blk HX4.out (by have := HGW.out; have := HRW.out.2.1; omega) (by simp))
  have HL5 := Aside0.mk (HL4.out.trans hL HL4.out.len)
  clear hS hL HR4 HX4 HL4 HT4 hr0
  go_upto_region 6 with (first | ((with_reducible refine gate_dst (N := 7) rfl ?_); (try (refine gate_guard (by rfl) ?_; dsimp only)); refine box_event ?hg (N := 7) ?hd (cs := #[.slice none 0 0]) (t := 34) ?hr ?_; (case hd => rfl); (case hg => rfl); (case hr => first | (go_simp; done) | (go_simp; rfl)); intro E hg_ w6 hbox_ hb_; have HE := Aside0.mk hbox_; have HEN := Aside0.mk hg_; have HEB := Aside0.mk hb_; clear hbox_ hg_ hb_; have he0 := blk_cell HE.out 0; have hf0 := blk_frozen HE.out 0))
  have HEW := Aside0.mk (show w.heap.size ≤ E ∧ E ≠ Q by
    have h1 := HEN.out
    have h2 := blk_lt HX5.out
    have h3 := HL5.out.keep.1
    omega)
  have n1_ := Aside0.mk (S_set (Kd.S_below HS5.out HEB.out) HE.out (by decide) 0 (.slice A m.length c))
  have n2_ := Aside0.mk (blk_far (blk_below HX5.out HEB.out) (Ne.symm HEW.out.2) (p := ⟨E, 0, none⟩) (.slice A m.length c))
  have n3_ := Aside0.mk ((HL5.out.up HEB.out).set HGW.out HPP.out HEW.out.1 0 (.slice A m.length c))
  have n4_ := Aside0.mk (blk_put (cs' := #[.slice A m.length c]) HE.out 0 (.slice A m.length c) rfl)
  clear HS5 HX5 HL5 HE HEN HEB he0 hf0
  generalize w6.setCell ⟨E, 0, none⟩ (.slice A m.length c) = w7 at n1_ n2_ n3_ n4_ ⊢
  cases ok with
  | false =>
    have HS2 := Aside0.mk (HST.out.trans (if_pos (.inl rfl)))
    clear HST
    have hq0 := blk_cell n2_.out 0
    have hf0 := blk_frozen n2_.out 0
    go_wp2_with fail
    have HE9 := blk_put (cs' := #[.slice none 0 0]) n2_.out 0 (.slice none 0 0) rfl
    refine bodyPost_ret (results_ct rfl _ _ Q 34 _ (0, 0) _ rfl HE9 Try.underlying34 rfl (by kernel_rfl)) rfl ?_
    rw [HS2.out]
    exact ⟨.slice none 0 0, rfl, Kd.S_nil _ _ _ _ _, n3_.out.set HGW.out HPP.out HRW.out.2.1 0 _⟩
  | true =>
    obtain ⟨-, hc, hC⟩ := Kd.S_reads' n1_.out
    have HM := Aside0.mk (query_May.calls A c m (mayQ m) w7 hC hc (if_pos (List.all_eq_true.2 fun x hx => fitC_iff.2 (HLE.out.2.2.1 x hx))))
    have he0 := blk_cell n4_.out 0
    clear hC hc
    go_wp2_with fail
    refine HM.out.mono ?_
    rintro e w8 ⟨rfl, hb8⟩
    have HS8 := Aside0.mk (Kd.S_below n1_.out hb8)
    have HX8 := Aside0.mk (blk_below n2_.out hb8)
    have HL8 := Aside0.mk (n3_.out.up hb8)
    have HE8 := Aside0.mk (blk_below n4_.out hb8)
    clear hb8 n1_ n2_ n3_ n4_ HM he0
    by_cases h0 : mayQ m = 0
    · have hbn : (mayQ m != 0) = false := bne_eq_false_iff_eq.mpr h0
      have HS2 := Aside0.mk (HST.out.trans (if_neg (by simp [h0])))
      clear HST h0
      have hq0 := blk_cell HX8.out 0
      have hf0 := blk_frozen HX8.out 0
      have he0 := blk_cell HE8.out 0
      go_wp2_with fail
      have HE9 := blk_put (cs' := #[.slice A m.length c]) HX8.out 0 (.slice A m.length c) rfl
      refine bodyPost_ret (results_ct rfl _ _ Q 34 _ (0, 0) _ rfl HE9 Try.underlying34 rfl (by kernel_rfl)) rfl ?_
      rw [HS2.out]
      exact ⟨.slice A m.length c, rfl, S_set HS8.out HX8.out (by decide) 0 _, HL8.out.set HGW.out HPP.out HRW.out.2.1 0 _⟩
    · have hbn : (mayQ m != 0) = true := bne_iff_ne.mpr h0
      have HS2 := Aside0.mk (HST.out.trans (if_pos (.inr h0)))
      clear HST h0
      have hq0 := blk_cell HX8.out 0
      have hf0 := blk_frozen HX8.out 0
      go_wp2_with fail
      have HE9 := blk_put (cs' := #[.slice none 0 0]) HX8.out 0 (.slice none 0 0) rfl
      refine bodyPost_ret (results_ct rfl _ _ Q 34 _ (0, 0) _ rfl HE9 Try.underlying34 rfl (by kernel_rfl)) rfl ?_
      rw [HS2.out]
      exact ⟨.slice none 0 0, rfl, Kd.S_nil _ _ _ _ _, HL8.out.set HGW.out HPP.out HRW.out.2.1 0 _⟩
end Go.Proofs.Ytocpcnmnhckcpaa.Prt
namespace Go.Proofs.Ytocpcnmnhckcpaa.Prt
open Go.RowKit Go.Proofs.YtocpcnmnhckcpaaW.PrintWords Go.Proofs.YtocpcnmnhckcpaaW.PrintLast Go.Proofs.YtocpcnmnhckcpaaW.PrintMore Go.Proofs.Ytocpcnmnhckcpaa.Num Go.Proofs.Ytocpcnmnhckcpaa.Nam
set_option linter.unusedVariables false
set_option linter.unusedSimpArgs false

set_option maxRecDepth 100000 in
theorem maybe_no (A : Option Addr) (c : Nat) (l : List Int) (f : Value) (w : World) (hC : Kd.C (Kd.int .u8) w A l.length l) (hc : l.length ≤ c) (hl : l.length ≤ 100000000000) :
    Calls Try.prog 23 #[.slice A l.length c, .bool false, f] w fun e w' => ∃ v, e = .returned (.tuple #[v, .int .i64 0]) ∧ Kd.R (Kd.int .u8) 5 w' w.heap.size (fun _ => True) v (l ++ enc 0) ∧ Below w.heap.size w w' := by
  have HP := Aside0.mk (num_Put.calls A c l 0 (l ++ enc 0) w hC hc (if_pos ⟨by omega, by omega, by omega⟩))
  clear hC hc
  go_enter Try.func23, Try.ntmps23
  go_wp2_with fail
  refine HP.out.mono ?_
  rintro e w1 ⟨v, rfl, ho, hb⟩
  have HO := Aside0.mk ho
  have HB := Aside0.mk hb
  clear ho hb HP
  go_wp2
  go_ret2
  exact ⟨_, rfl, HO.out, HB.out⟩
set_option maxRecDepth 100000 in
theorem maybe_yes (G : Nat) (q1 : Value) (r : List Int) (pe : Int) (A : Option Addr) (c : Nat) (l : List Int) (w : World) (hC : Kd.C (Kd.int .u8) w A l.length l) (hc : l.length ≤ c) (hl : l.length ≤ 100000000000)
    (hent : ∀ (xs : Array Value) (W : World), (callFunc G xs).run Try.prog W = .ok (.enter G xs) W)
    (hs : ∀ w1 A' c', Below w.heap.size w w1 → Kd.C (Kd.int .u8) w1 A' (l ++ enc 1).length (l ++ enc 1) → (l ++ enc 1).length ≤ c' → Calls Try.prog G #[.slice A' (l ++ enc 1).length c', q1] w1 fun e w2 => ∃ v, e = .returned (.tuple #[v, .int .i64 pe]) ∧ Kd.R (Kd.int .u8) 5 w2 w1.heap.size (fun _ => True) v r ∧ Below w1.heap.size w1 w2) :
    Calls Try.prog 23 #[.slice A l.length c, .bool true, .func (.func G) #[] #[q1]] w fun e w' => ∃ v, e = .returned (.tuple #[v, .int .i64 pe]) ∧ Kd.R (Kd.int .u8) 5 w' w.heap.size (fun _ => True) v r ∧ Below w.heap.size w w' := by
  obtain ⟨l1, hl1⟩ : ∃ l1, l1 = l ++ enc 1 := ⟨_, rfl⟩
  rw [← hl1] at hs
  have HP := Aside0.mk (num_Put.calls A c l 1 l1 w hC hc (by rw [hl1]; exact if_pos ⟨by omega, by omega, by omega⟩))
  have HS := Aside0.mk hs
  clear hC hc hs hl1
  go_enter Try.func23, Try.ntmps23
  go_wp2_with fail
  refine HP.out.mono ?_
  rintro e w1 ⟨v, rfl, ho, hb⟩
  obtain ⟨A1, c1, e1⟩ := Kd.R_slice ho
  subst e1
  obtain ⟨-, hc1, hC1⟩ := Kd.R_reads' ho
  have HB := Aside0.mk hb
  have HC := Aside0.mk (HS.out w1 A1 c1 hb hC1 hc1)
  clear ho hb HP hc1 hC1
  go_wp2_with fail
  refine HC.out.mono ?_
  rintro e w2 ⟨v2, rfl, ho, hb⟩
  have HO := Aside0.mk (Kd.R_lower ho HB.out.size)
  have HB2 := Aside0.mk (below_step HB.out hb)
  clear ho hb HC
  go_wp2
  go_ret2
  exact ⟨_, rfl, HO.out, HB2.out⟩
set_option maxRecDepth 100000 in
/-- The closure that lays an event down. -/
theorem putEv_calls (Q : Nat) (x : S31) (A2 : Option Addr) (c2 : Nat) (A3 : Option Addr) (c3 : Nat) (w : World) (hQ : w.heap[Q]? = some (.cells #[.string x.f0, .string x.f1, .slice A2 x.f2.length c2, .slice A3 x.f3.length c3] 31 (0, 0)))
    (h2 : Kd.C Kd.string w A2 x.f2.length x.f2) (l2 : x.f2.length ≤ c2) (h3 : Kd.C k90 w A3 x.f3.length x.f3) (l3 : x.f3.length ≤ c3) (hf : fitE x.f0 x.f1 x.f2 x.f3 = true)
    (A : Option Addr) (c : Nat) (l : List Int) (hC : Kd.C (Kd.int .u8) w A l.length l) (hc : l.length ≤ c) (hl : l.length ≤ 100000000000) (r1 : List Int) (r2 : Int) (hr : (if mayE x.f0 x.f1 x.f2 x.f3 = 0 then (l ++ encEv x.f0 x.f1 x.f2 x.f3, (0 : Int)) else ([], mayE x.f0 x.f1 x.f2 x.f3)) = (r1, r2)) :
    Calls Try.prog 25 #[.slice A l.length c, .pointer (some ⟨Q, 0, none⟩)] w fun e w' => ∃ v, e = .returned (.tuple #[v, .int .i64 r2]) ∧ Kd.R (Kd.int .u8) 5 w' w.heap.size (fun _ => True) v r1 ∧ Below w.heap.size w w' := by
  have HP := Aside0.mk (evcode_PutG.calls A c l x.f0 x.f1 A2 c2 x.f2 A3 c3 x.f3 r1 r2 w hC hc h2 l2 h3 l3 (by rw [← hr]; exact putG_ok (by omega) (Kd.C_max h2) hf))
  have hq0 := blk_cell hQ 0
  have hq1 := blk_cell hQ 1
  have hq2 := blk_cell hQ 2
  have hq3 := blk_cell hQ 3
  have hu31 := Try.underlying31
  clear hr hC hc h2 l2 h3 l3 hf hQ
  go_enter Try.func25, Try.ntmps25
  go_wp2_with fail
  refine HP.out.mono ?_
  rintro e w1 ⟨v, rfl, ho, hb⟩
  have HO := Aside0.mk ho
  have HB := Aside0.mk hb
  clear ho hb HP
  go_wp2
  go_ret2
  exact ⟨_, rfl, HO.out, HB.out⟩
set_option maxRecDepth 100000 in
/-- The closure that lays a query down. -/
theorem putQu_calls (X : Nat) (u0 u1 u2 u3 u4 u5 u6 u7 u8 : Value) (q : List S92) (A2 : Option Addr) (c2 : Nat) (w : World) (hQ : w.heap[X]? = some (.cells #[u0, u1, u2, u3, u4, u5, u6, u7, u8, .slice A2 q.length c2] 36 (0, 0)))
    (h2 : Kd.C k92 w A2 q.length q) (l2 : q.length ≤ c2) (hf : q.all fitC = true)
    (A : Option Addr) (c : Nat) (l : List Int) (hC : Kd.C (Kd.int .u8) w A l.length l) (hc : l.length ≤ c) (hl : l.length ≤ 100000000000) (r1 : List Int) (r2 : Int) (hr : (if mayQ q = 0 then (l ++ encQ q, (0 : Int)) else ([], mayQ q)) = (r1, r2)) :
    Calls Try.prog 27 #[.slice A l.length c, .pointer (some ⟨X, 0, none⟩)] w fun e w' => ∃ v, e = .returned (.tuple #[v, .int .i64 r2]) ∧ Kd.R (Kd.int .u8) 5 w' w.heap.size (fun _ => True) v r1 ∧ Below w.heap.size w w' := by
  have HP := Aside0.mk (qcode_Put.calls A c l A2 c2 q r1 r2 w hC hc h2 l2 (by rw [← hr]; exact qput_ok hl hf))
  have hq9 := blk_cell hQ 9
  have hu34 := Try.underlying34
  have hu36 := Try.underlying36
  clear hr hC hc h2 l2 hf hQ
  go_enter Try.func27, Try.ntmps27
  go_wp2_with fail
  refine HP.out.mono ?_
  rintro e w1 ⟨v, rfl, ho, hb⟩
  have HO := Aside0.mk ho
  have HB := Aside0.mk hb
  clear ho hb HP
  go_wp2
  go_ret2
  exact ⟨_, rfl, HO.out, HB.out⟩
end Go.Proofs.Ytocpcnmnhckcpaa.Prt
namespace Go.Proofs.Ytocpcnmnhckcpaa.Prt
open Go.RowKit Go.Proofs.YtocpcnmnhckcpaaW.PrintWords Go.Proofs.YtocpcnmnhckcpaaW.PrintLast Go.Proofs.YtocpcnmnhckcpaaW.PrintMore Go.Proofs.Ytocpcnmnhckcpaa.Num Go.Proofs.Ytocpcnmnhckcpaa.Nam
set_option linter.unusedVariables false
set_option linter.unusedSimpArgs false
/-- A step's three rows, read. -/
structure StC (w : World) (t : S36) (A7 : Option Addr) (c7 : Nat) (A8 : Option Addr) (c8 : Nat) (A9 : Option Addr) (c9 : Nat) : Prop where
  h7 : Kd.C Kd.string w A7 t.f5.f2.length t.f5.f2
  l7 : t.f5.f2.length ≤ c7
  h8 : Kd.C k90 w A8 t.f5.f3.length t.f5.f3
  l8 : t.f5.f3.length ≤ c8
  h9 : Kd.C k92 w A9 t.f6.f0.length t.f6.f0
  l9 : t.f6.f0.length ≤ c9
/-- What the walks ask of a step's size. -/
structure FitS (t : S36) : Prop where
  k0 : i64 t.f0
  k1 : i64 t.f1
  k2 : i64 t.f2
  k3 : i64 t.f3
  k4 : t.f4.size ≤ 1000000000
  k5 : t.f5.f2.length ≤ 1000000
  hv : fitE t.f5.f0 t.f5.f1 t.f5.f2 t.f5.f3 = true
  hq : t.f6.f0.all fitC = true
def stV (t : S36) (A7 : Option Addr) (c7 : Nat) (A8 : Option Addr) (c8 : Nat) (A9 : Option Addr) (c9 : Nat) : Value := .agg #[.int .i64 t.f0, .int .i64 t.f1, .int .i64 t.f2, .int .i64 t.f3, .string t.f4, .string t.f5.f0, .string t.f5.f1, .slice A7 t.f5.f2.length c7, .slice A8 t.f5.f3.length c8, .slice A9 t.f6.f0.length c9]
theorem noV_a {es et : ByteArray} {tg : List ByteArray} {fl : List S90} (h : ¬ es.toList = []) : noV ⟨es, et, tg, fl⟩ = false := by
  cases hc : noV ⟨es, et, tg, fl⟩ with
  | false => rfl
  | true =>
    have := (noV_iff _).1 hc
    simp only [z31, S31.mk.injEq] at this
    exact absurd (by rw [this.1]; rw [Lib.toList_data]) h
theorem noV_b {es et : ByteArray} {tg : List ByteArray} {fl : List S90} (h : ¬ et.toList = []) : noV ⟨es, et, tg, fl⟩ = false := by
  cases hc : noV ⟨es, et, tg, fl⟩ with
  | false => rfl
  | true =>
    have := (noV_iff _).1 hc
    simp only [z31, S31.mk.injEq] at this
    exact absurd (by rw [this.2.1]; rw [Lib.toList_data]) h
theorem noV_c {es et : ByteArray} {tg : List ByteArray} {fl : List S90} (h : es.toList = []) (h2 : et.toList = []) (ht : tg.length ≤ 1000000) (hf : fl.length < 8796093022208) : decide (0 < (tg.length : Int) + (fl.length : Int)) = !noV ⟨es, et, tg, fl⟩ := by
  unfold noV
  simp only
  rw [empty_size h, empty_size h2]
  by_cases h0 : tg.length + fl.length = 0
  · rw [decide_eq_false (show ¬ ((0 : Int) < (tg.length : Int) + (fl.length : Int)) by omega), decide_eq_true h0]; rfl
  · rw [decide_eq_true (show (0 : Int) < (tg.length : Int) + (fl.length : Int) by omega), decide_eq_false h0]; rfl
set_option maxRecDepth 100000 in
theorem maybeV_calls (Q : Nat) (x : S31) (A2 : Option Addr) (c2 : Nat) (A3 : Option Addr) (c3 : Nat) (w : World) (hQ : w.heap[Q]? = some (.cells #[.string x.f0, .string x.f1, .slice A2 x.f2.length c2, .slice A3 x.f3.length c3] 31 (0, 0)))
    (h2 : Kd.C Kd.string w A2 x.f2.length x.f2) (l2 : x.f2.length ≤ c2) (h3 : Kd.C k90 w A3 x.f3.length x.f3) (l3 : x.f3.length ≤ c3) (hf : fitE x.f0 x.f1 x.f2 x.f3 = true)
    (A : Option Addr) (c : Nat) (l : List Int) (hC : Kd.C (Kd.int .u8) w A l.length l) (hc : l.length ≤ c) (hl : l.length ≤ 10000000000) (nv : Bool) (hnv : nv = noV x) (r1 : List Int) (r2 : Int) (hr : (if mayV x = 0 then (l ++ encV x, (0 : Int)) else ([], mayV x)) = (r1, r2)) :
    Calls Try.prog 23 #[.slice A l.length c, .bool (!nv), .func (.func 25) #[] #[.pointer (some ⟨Q, 0, none⟩)]] w fun e w' => ∃ v, e = .returned (.tuple #[v, .int .i64 r2]) ∧ Kd.R (Kd.int .u8) 5 w' w.heap.size (fun _ => True) v r1 ∧ Below w.heap.size w w' := by
  cases nv with
  | true =>
    have hm : mayV x = 0 := by unfold mayV; rw [if_pos hnv.symm]
    have he : encV x = enc 0 := by unfold encV; rw [if_pos hnv.symm]
    rw [if_pos hm, he] at hr
    obtain ⟨rfl, rfl⟩ := Prod.mk.inj hr
    exact maybe_no A c l _ w hC hc (by omega)
  | false =>
    have hn : ¬ noV x = true := by rw [← hnv]; simp
    have hm : mayV x = mayE x.f0 x.f1 x.f2 x.f3 := by unfold mayV; rw [if_neg hn]
    have he : encV x = enc 1 ++ encEv x.f0 x.f1 x.f2 x.f3 := by unfold encV; rw [if_neg hn]
    rw [hm, he, ← List.append_assoc] at hr
    have h1 := enc_len (x := 1) ⟨by decide, by decide⟩
    exact maybe_yes 25 _ r1 r2 A c l w hC hc (by omega) (enters_of Try.func25 (by kernel_rfl) rfl) (fun w1 A' c' hb hC1 hc1 => putEv_calls Q x A2 c2 A3 c3 w1 (blk_below hQ hb) (Kd.C_below h2 hb) l2 (Kd.C_below h3 hb) l3 hf A' c' (l ++ enc 1) hC1 hc1 (by rw [List.length_append]; omega) r1 r2 hr)
set_option maxRecDepth 100000 in
theorem maybeW_calls (X : Nat) (u0 u1 u2 u3 u4 u5 u6 u7 u8 : Value) (q : List S92) (A2 : Option Addr) (c2 : Nat) (w : World) (hQ : w.heap[X]? = some (.cells #[u0, u1, u2, u3, u4, u5, u6, u7, u8, .slice A2 q.length c2] 36 (0, 0)))
    (h2 : Kd.C k92 w A2 q.length q) (l2 : q.length ≤ c2) (hf : q.all fitC = true)
    (A : Option Addr) (c : Nat) (l : List Int) (hC : Kd.C (Kd.int .u8) w A l.length l) (hc : l.length ≤ c) (hl : l.length ≤ 10000000000) (r1 : List Int) (r2 : Int) (hr : (if mayW q = 0 then (l ++ encW q, (0 : Int)) else ([], mayW q)) = (r1, r2)) :
    Calls Try.prog 23 #[.slice A l.length c, .bool (decide (0 < q.length)), .func (.func 27) #[] #[.pointer (some ⟨X, 0, none⟩)]] w fun e w' => ∃ v, e = .returned (.tuple #[v, .int .i64 r2]) ∧ Kd.R (Kd.int .u8) 5 w' w.heap.size (fun _ => True) v r1 ∧ Below w.heap.size w w' := by
  by_cases hz : q.length = 0
  · have hm : mayW q = 0 := by unfold mayW; rw [if_pos hz]
    have he : encW q = enc 0 := by unfold encW; rw [if_pos hz]
    rw [if_pos hm, he] at hr
    obtain ⟨rfl, rfl⟩ := Prod.mk.inj hr
    rw [decide_eq_false (by omega)]
    exact maybe_no A c l _ w hC hc (by omega)
  · have hm : mayW q = mayQ q := by unfold mayW; rw [if_neg hz]
    have he : encW q = enc 1 ++ encQ q := by unfold encW; rw [if_neg hz]
    rw [hm, he, ← List.append_assoc] at hr
    have h1 := enc_len (x := 1) ⟨by decide, by decide⟩
    rw [decide_eq_true (by omega)]
    exact maybe_yes 27 _ r1 r2 A c l w hC hc (by omega) (enters_of Try.func27 (by kernel_rfl) rfl) (fun w1 A' c' hb hC1 hc1 => putQu_calls X u0 u1 u2 u3 u4 u5 u6 u7 u8 q A2 c2 w1 (blk_below hQ hb) (Kd.C_below h2 hb) l2 hf A' c' (l ++ enc 1) hC1 hc1 (by rw [List.length_append]; omega) r1 r2 hr)
theorem flat_take (ns : List Int) (i : Nat) (h : i < ns.length) : (ns.take (i + 1)).flatMap enc = (ns.take i).flatMap enc ++ enc (ns.getD i 0) := by
  rw [List.take_succ_eq_append_getElem h, List.flatMap_append]
  congr 1
  rw [List.getD_eq_getElem?_getD, List.getElem?_eq_getElem h]; simp
theorem flat_len (ns : List Int) (h : ∀ x ∈ ns, i64 x) : (ns.flatMap enc).length ≤ 10 * ns.length := flat_size ns (fun x hx => enc_len (h x hx))
set_option maxRecDepth 100000 in
set_option maxHeartbeats 4000000 in
theorem put_calls22 (t : S36) (A7 : Option Addr) (c7 : Nat) (A8 : Option Addr) (c8 : Nat) (A9 : Option Addr) (c9 : Nat) (w : World) (h : StC w t A7 c7 A8 c8 A9 c9) (hf : FitS t) (p : List Int) (pe : Int) (hp : putS t = (p, pe)) :
    Calls Try.prog 12 #[stV t A7 c7 A8 c8 A9 c9] w fun e w' => ∃ v, e = .returned (.tuple #[v, .int .i64 pe]) ∧ Kd.R (Kd.int .u8) 5 w' w.heap.size (fun _ => True) v p ∧ Below w.heap.size w w' := by
  obtain ⟨h7, l7, h8, l8, h9, l9⟩ := h
  obtain ⟨k0, k1, k2, k3, k4, k5, hv, hq⟩ := hf
  obtain ⟨k, s, n, m, st, ⟨es, et, tg, fl⟩, ⟨q⟩⟩ := t
  simp only at h7 l7 h8 l8 h9 l9 k0 k1 k2 k3 k4 k5 hv hq
  unfold stV
  simp only
  obtain ⟨ns, hns⟩ : ∃ ns, ns = [k, s, n, m] := ⟨_, rfl⟩
  have hnl : ns.length = 4 := by rw [hns]; rfl
  have HNS : Aside0 (∀ x ∈ ns, i64 x) := ⟨by
    rw [hns]
    intro x hx
    simp only [List.mem_cons, List.not_mem_nil, or_false] at hx
    rcases hx with rfl | rfl | rfl | rfl <;> assumption⟩
  have HFL := Aside0.mk (show ns.flatMap enc ++ encT (bytesOf st) = encK ⟨k, s, n, m, st, ⟨es, et, tg, fl⟩, ⟨q⟩⟩ by
    rw [hns]
    unfold encK
    simp [List.append_assoc])
  have H7 := Aside0.mk (And.intro h7 l7)
  have H8 := Aside0.mk (And.intro h8 l8)
  have H9 := Aside0.mk (And.intro h9 l9)
  have HV := Aside0.mk (And.intro k4 hv)
  have HTL := Aside0.mk k5
  have HQ := Aside0.mk hq
  have HP := Aside0.mk hp
  have HNK := Aside0.mk hns
  have HNL := Aside0.mk hnl
  clear h7 l7 h8 l8 h9 l9 k0 k1 k2 k3 hv hq hp k4 k5 hnl hns
  have hu36 := Try.underlying36
  have hu31 := Try.underlying31
  have hu34 := Try.underlying34
  go_enter Try.func12, Try.ntmps12
  go_upto_region 1 with (first | ((with_reducible refine gate_dst (N := 1) rfl ?_); (try (refine gate_guard (by rfl) ?_; dsimp only)); refine box_event ?hg (N := 1) ?hd (cs := #[.int .i64 k, .int .i64 s, .int .i64 n, .int .i64 m, .string st, .string es, .string et, .slice A7 tg.length c7, .slice A8 fl.length c8, .slice A9 q.length c9]) (t := 36) ?hr ?_; (case hd => rfl); (case hg => rfl); (case hr => first | (go_simp; done) | (go_simp; rfl)); intro X hg_ w1 hbox_ hb_; have HX := Aside0.mk hbox_; have HXN := Aside0.mk hg_; have HXB := Aside0.mk hb_; clear hbox_ hg_ hb_; have hx0 := blk_cell HX.out 0; have hf0 := blk_frozen HX.out 0; have hx1 := blk_cell HX.out 1; have hf1 := blk_frozen HX.out 1; have hx2 := blk_cell HX.out 2; have hf2 := blk_frozen HX.out 2; have hx3 := blk_cell HX.out 3; have hf3 := blk_frozen HX.out 3; have hx4 := blk_cell HX.out 4; have hf4 := blk_frozen HX.out 4; have hx5 := blk_cell HX.out 5; have hf5 := blk_frozen HX.out 5; have hx6 := blk_cell HX.out 6; have hf6 := blk_frozen HX.out 6; have hx7 := blk_cell HX.out 7; have hf7 := blk_frozen HX.out 7; have hx8 := blk_cell HX.out 8; have hf8 := blk_frozen HX.out 8; have hx9 := blk_cell HX.out 9; have hf9 := blk_frozen HX.out 9))
  go_upto_region 3 with (first | ((with_reducible refine gate_dst (N := 18) rfl ?_); refine Kd.R_lit (Kd.int .i64) (w0 := w1) w1.heap.size 3 ?hg (N := 18) ?hd (xs := [k, s, n, m]) (inner := [.int .i64 k, .int .i64 s, .int .i64 n, .int .i64 m]) (ok := fun _ => True) (okp := fun _ => True) ?hr ?hp (fun _ hk => hk) trivial (Below.refl _ _) (Nat.le_refl _) (by simp) ?_; (case hd => rfl); (case hg => rfl); (case hr => first | (go_simp; done) | (go_simp; rfl)); (case hp => exact Kd.reps_scalar [k, s, n, m]); intro v18 w2 ho hb hg hat; rw [← HNK.out] at ho; have HO18 := Aside0.mk ho; have HB2 := Aside0.mk hb; obtain ⟨A18, c18, e18⟩ := Kd.R_slice ho; subst e18; clear ho hb hg hat))
  have HX2 := Aside0.mk (blk_below HX.out HB2.out)
  have HBW2 := Aside0.mk (below_then HXB.out HXB.out.size HB2.out)
  have hn4 : ns.length ≤ 4 := by have := HNL.out; omega
  clear HX HXN HXB HB2 hx0 hx1 hx2 hx3 hx4 hx5 hx6 hx7 hx8 hx9 hf0 hf1 hf2 hf3 hf4 hf5 hf6 hf7 hf8 hf9
  go_loopg [4, 20] ns.length (fun gk v4 v20 w' => ∃ i : Nat, v20 = .int .i64 (i : Int) ∧ Aside0 (i + gk = ns.length) ∧ Aside0 (Kd.R (Kd.int .u8) 5 w' w.heap.size (fun _ => True) v4 ((ns.take i).flatMap enc)) ∧ Aside0 (Below w2.heap.size w2 w'))
  case atStart => exact ⟨0, rfl, ⟨by omega⟩, ⟨Kd.R_nil _ _ _ _ _⟩, ⟨Below.refl _ _⟩⟩
  case round =>
    obtain ⟨i, rfl, HE, HO4, HB4⟩ := hrel
    obtain ⟨A4, c4, e4⟩ := Kd.R_slice HO4.out
    subst e4
    obtain ⟨-, hc4, hC4⟩ := Kd.R_reads' HO4.out
    by_cases hlt : i < ns.length
    · have hb1 : decide ((i : Int) < (ns.length : Int)) = true := decide_eq_true (by omega)
      obtain ⟨-, hc18, hC18⟩ := Kd.R_reads' HO18.out
      obtain ⟨ad, e_, hx⟩ := Kd.at_int (Kd.C_below hC18 HB4.out) (i : Int) (by omega) (by omega)
      cases e_
      rw [Int.toNat_natCast] at hx
      have hft := flat_take ns i hlt
      have hfl := flat_len (ns.take i) (fun x hx => HNS.out x (List.mem_of_mem_take hx))
      rw [List.length_take] at hfl
      have hy := HNS.out (ns.getD i 0) (getD_mem' hlt _)
      obtain ⟨y, hyd⟩ : ∃ y, y = rd ns (i : Int) := ⟨_, rfl⟩
      have hyd' : ns.getD i 0 = y := by rw [hyd]; rfl
      rw [← hyd] at hx
      rw [hyd'] at hy hft
      obtain ⟨l4, hl4⟩ : ∃ l4, l4 = (ns.take i).flatMap enc := ⟨_, rfl⟩
      rw [← hl4] at hft hfl hC4 hc4 HO4 ⊢
      have HPN := Aside0.mk (num_Put.calls A4 c4 l4 y (l4 ++ enc y) wr hC4 hc4 (if_pos ⟨by have := HNL.out; omega, hy.1, hy.2⟩))
      have HFT := Aside0.mk hft
      have HSZ := Aside0.mk (Nat.le_trans HBW2.out.size HB4.out.size)
      clear hft hfl hy hyd hyd' hl4 hC4 hc4 hC18 hc18
      go_wp2_with fail
      refine HPN.out.mono ?_
      rintro e w3 ⟨v3, rfl, ho, hb⟩
      have HO5 := Aside0.mk (show Kd.R (Kd.int .u8) 5 w3 w.heap.size (fun _ => True) v3 ((ns.take (i + 1)).flatMap enc) by rw [HFT.out]; exact Kd.R_lower ho HSZ.out)
      have HB5 := Aside0.mk (below_step HB4.out hb)
      clear ho hb HPN
      go_wp2
      go_roundg (ns.length - (i + 1))
      case measure => have := HE.out; omega
      case rel => exact ⟨i + 1, by go_num, ⟨by have := HE.out; omega⟩, HO5, HB5⟩
    · have hb1 : decide ((i : Int) < (ns.length : Int)) = false := decide_eq_false (by omega)
      obtain ⟨lk, hlk⟩ : ∃ lk, lk = (ns.take i).flatMap enc := ⟨_, rfl⟩
      have HLK := Aside0.mk (show lk ++ encT (bytesOf st) = encK ⟨k, s, n, m, st, ⟨es, et, tg, fl⟩, ⟨q⟩⟩ by rw [← HFL.out, hlk, List.take_of_length_le (by omega)])
      have hfl := flat_len (ns.take i) (fun x hx => HNS.out x (List.mem_of_mem_take hx))
      rw [← hlk, List.length_take] at hfl
      have HKL : Aside0 (lk.length ≤ 40) := ⟨by have := HNL.out; omega⟩
      rw [← hlk] at HO4 ⊢
      have HX := Aside0.mk (blk_below HX2.out HB4.out)
      have HBW := Aside0.mk (below_then HBW2.out HBW2.out.size HB4.out)
      clear hlk hfl hc4 hC4 HX2 HBW2 HB4 HO18 HNS HFL HNK HNL
      have hx4 := blk_cell HX.out 4
      have hx5 := blk_cell HX.out 5
      have hx6 := blk_cell HX.out 6
      have hx7 := blk_cell HX.out 7
      have hx8 := blk_cell HX.out 8
      go_upto_region 8 with (first | ((with_reducible refine gate_dst (N := 7) rfl ?_); (try (refine gate_guard (by rfl) ?_; dsimp only)); refine box_event ?hg (N := 7) ?hd (cs := #[.string ⟨#[]⟩, .string ⟨#[]⟩, .slice none 0 0, .slice none 0 0]) (t := 31) ?hr ?_; (case hd => rfl); (case hg => rfl); (case hr => first | (go_simp; done) | (go_simp; rfl)); intro V hg_ w4 hbox_ hb_; have HV4 := Aside0.mk hbox_; have HVN := Aside0.mk hg_; have HVB := Aside0.mk hb_; clear hbox_ hg_ hb_; have hv0 := blk_cell HV4.out 0; have hg0 := blk_frozen HV4.out 0; have hv1 := blk_cell HV4.out 1; have hg1 := blk_frozen HV4.out 1; have hv2 := blk_cell HV4.out 2; have hg2 := blk_frozen HV4.out 2; have hv3 := blk_cell HV4.out 3; have hg3 := blk_frozen HV4.out 3))
      have HVW := Aside0.mk (show w.heap.size ≤ V ∧ X ≠ V by
        have h1 := HVN.out
        have h2 := blk_lt HX.out
        have h3 := HBW.out.size
        omega)
      have n1_ := Aside0.mk (blk_far (blk_far (blk_far (blk_far (blk_below HX.out HVB.out) HVW.out.2 (p := ⟨V, 0, none⟩) (.string es)) HVW.out.2 (p := ⟨V, 1, none⟩) (.string et)) HVW.out.2 (p := ⟨V, 2, none⟩) (.slice A7 tg.length c7)) HVW.out.2 (p := ⟨V, 3, none⟩) (.slice A8 fl.length c8))
      have n2_ := Aside0.mk (blk_put (cs' := #[.string es, .string et, .slice A7 tg.length c7, .slice A8 fl.length c8]) (blk_put (cs' := #[.string es, .string et, .slice A7 tg.length c7, .slice none 0 0]) (blk_put (cs' := #[.string es, .string et, .slice none 0 0, .slice none 0 0]) (blk_put (cs' := #[.string es, .string ⟨#[]⟩, .slice none 0 0, .slice none 0 0]) HV4.out 0 (.string es) rfl) 1 (.string et) rfl) 2 (.slice A7 tg.length c7) rfl) 3 (.slice A8 fl.length c8) rfl)
      have n3_ := Aside0.mk (((((below_step HBW.out HVB.out).setCell (p := ⟨V, 0, none⟩) HVW.out.1 (.string es)).setCell (p := ⟨V, 1, none⟩) HVW.out.1 (.string et)).setCell (p := ⟨V, 2, none⟩) HVW.out.1 (.slice A7 tg.length c7)).setCell (p := ⟨V, 3, none⟩) HVW.out.1 (.slice A8 fl.length c8))
      have n4_ := Aside0.mk (R_set4 (Kd.R_below HO4.out HVB.out) HV4.out (by decide) (.string es) (.string et) (.slice A7 tg.length c7) (.slice A8 fl.length c8))
      clear HX HBW HO4 HV4 HVN HVB hv0 hv1 hv2 hv3 hg0 hg1 hg2 hg3 hx4 hx5 hx6 hx7 hx8
      generalize (((w4.setCell ⟨V, 0, none⟩ (.string es)).setCell ⟨V, 1, none⟩ (.string et)).setCell ⟨V, 2, none⟩ (.slice A7 tg.length c7)).setCell ⟨V, 3, none⟩ (.slice A8 fl.length c8) = w5 at n1_ n2_ n3_ n4_ ⊢
      have hv0 := blk_cell n2_.out 0
      have hv1 := blk_cell n2_.out 1
      have hv2 := blk_cell n2_.out 2
      have hv3 := blk_cell n2_.out 3
      obtain ⟨nv, hnv⟩ : ∃ nv, nv = noV ⟨es, et, tg, fl⟩ := ⟨_, rfl⟩
      have HNV := Aside0.mk hnv
      clear hnv
      go_cut [8] (fun v8 wc => v8 = .bool (!nv) ∧ w5 = wc)
      case first =>
        have hfl := (fitE_iff.1 HV.out.2).2.2.2.2
        have htl := HTL.out
        go_wp2
        all_goals go_meet
        all_goals exact ⟨by rw [HNV.out]; first | (rw [noV_a (by assumption)]; rfl) | (rw [noV_b (by assumption)]; rfl) | (exact congrArg Value.bool (noV_c ‹es.toList = []› ‹et.toList = []› htl hfl)), rfl⟩
      case rest =>
      obtain ⟨rfl, rfl⟩ := hcut
      obtain ⟨-, hc4, hC4⟩ := Kd.R_reads' n4_.out
      have HPT := Aside0.mk (num_PutText.calls A4 c4 lk st (lk ++ encT (bytesOf st)) w5 hC4 hc4 (if_pos (by have := HKL.out; have := HV.out.1; omega)))
      rw [HLK.out] at HPT
      obtain ⟨l5, hl5⟩ : ∃ l5, l5 = encK ⟨k, s, n, m, st, ⟨es, et, tg, fl⟩, ⟨q⟩⟩ := ⟨_, rfl⟩
      rw [← hl5] at HPT HLK
      have hl5z : l5.length ≤ 1000000100 := by
        rw [← HLK.out, List.length_append]
        have := encT_len st (by have := HV.out.1; omega)
        have := HKL.out
        have := HV.out.1
        omega
      have HL5 := Aside0.mk hl5
      clear hc4 hC4 hl5
      have hx4 := blk_cell n1_.out 4
      go_wp2_with fail
      refine HPT.out.mono ?_
      rintro e w6 ⟨v6, rfl, ho, hb⟩
      obtain ⟨A6, c6, e6⟩ := Kd.R_slice ho
      subst e6
      obtain ⟨-, hc6, hC6⟩ := Kd.R_reads' ho
      have HX6 := Aside0.mk (blk_below n1_.out hb)
      have HV6 := Aside0.mk (blk_below n2_.out hb)
      have HB6 := Aside0.mk (below_step n3_.out hb)
      have HL5z := Aside0.mk hl5z
      obtain ⟨⟨r1, r2⟩, hr⟩ : ∃ r, (if mayV ⟨es, et, tg, fl⟩ = 0 then (l5 ++ encV ⟨es, et, tg, fl⟩, (0 : Int)) else ([], mayV ⟨es, et, tg, fl⟩)) = r := ⟨_, rfl⟩
      have HM := Aside0.mk (maybeV_calls V ⟨es, et, tg, fl⟩ A7 c7 A8 c8 w6 HV6.out (Kd.C_below H7.out.1 HB6.out) H7.out.2 (Kd.C_below H8.out.1 HB6.out) H8.out.2 HV.out.2 A6 c6 l5 hC6 hc6 (by omega) nv HNV.out r1 r2 hr)
      have HR := Aside0.mk hr
      clear n1_ n2_ n3_ n4_ hv0 hv1 hv2 hv3 hx4 ho hb hc6 hC6 HPT hl5z hr
      go_wp2_with fail
      refine HM.out.mono ?_
      rintro e w7 ⟨v7, rfl, ho, hb⟩
      have HX7 := Aside0.mk (blk_below HX6.out hb)
      have HB7 := Aside0.mk (below_step HB6.out hb)
      have HO7 := Aside0.mk ho
      obtain ⟨A77, c77, e77⟩ := Kd.R_slice ho
      subst e77
      obtain ⟨-, hc7, hC7⟩ := Kd.R_reads' ho
      clear HX6 HV6 HB6 HM ho hb
      by_cases hm : mayV ⟨es, et, tg, fl⟩ = 0
      · have hr := HR.out
        rw [if_pos hm] at hr
        obtain ⟨rfl, rfl⟩ := Prod.mk.inj hr
        have hez := encV_size hm
        obtain ⟨l7, hl7⟩ : ∃ l7, l7 = l5 ++ encV ⟨es, et, tg, fl⟩ := ⟨_, rfl⟩
        rw [← hl7] at hc7 hC7 HO7 ⊢
        have hl7z : l7.length ≤ 10000000000 := by rw [hl7, List.length_append]; have := HL5z.out; omega
        have HPQ : Aside0 ((if mayW q = 0 then (l7 ++ encW q, (0 : Int)) else ([], mayW q)) = (p, pe)) := ⟨by
          rw [← HP.out]
          unfold putS
          simp only
          rw [if_neg (show ¬ mayV ⟨es, et, tg, fl⟩ ≠ 0 from fun h => h hm)]
          by_cases hq : mayW q = 0
          · rw [if_pos hq, if_neg (show ¬ mayW q ≠ 0 from fun h => h hq), hl7, HL5.out, List.append_assoc]; rfl
          · rw [if_neg hq, if_pos hq]⟩
        have HM := Aside0.mk (maybeW_calls X _ _ _ _ _ _ _ _ _ q A9 c9 w7 HX7.out (Kd.C_below H9.out.1 HB7.out) H9.out.2 HQ.out A77 c77 l7 hC7 hc7 hl7z p pe HPQ.out)
        have hx9 := blk_cell HX7.out 9
        clear hr hez hl7 hl7z hc7 hC7 HR HPQ hm
        go_wp2_with fail
        refine HM.out.mono ?_
        rintro e w8 ⟨v8, rfl, ho, hb⟩
        have HO8 := Aside0.mk (Kd.R_lower ho HB7.out.size)
        have HB8 := Aside0.mk (below_step HB7.out hb)
        clear ho hb HM
        go_wp2
        go_ret2
        exact ⟨_, rfl, HO8.out, HB8.out⟩
      · have hr := HR.out
        rw [if_neg hm] at hr
        obtain ⟨rfl, rfl⟩ := Prod.mk.inj hr
        have hp := HP.out
        unfold putS at hp
        rw [if_pos hm] at hp
        obtain ⟨rfl, rfl⟩ := Prod.mk.inj hp
        have hbn : (mayV ⟨es, et, tg, fl⟩ != 0) = true := bne_iff_ne.mpr hm
        clear hr hp HR HP hm
        go_wp2_with fail
        go_ret2
        exact ⟨_, rfl, Kd.R_nil _ _ _ _ _, HB7.out⟩
end Go.Proofs.Ytocpcnmnhckcpaa.Prt
namespace Go.Proofs.Ytocpcnmnhckcpaa.Prt
open Go.RowKit Go.Proofs.YtocpcnmnhckcpaaW.PrintWords Go.Proofs.YtocpcnmnhckcpaaW.PrintLast Go.Proofs.YtocpcnmnhckcpaaW.PrintMore Go.Proofs.Ytocpcnmnhckcpaa.Num Go.Proofs.Ytocpcnmnhckcpaa.Nam
set_option linter.unusedVariables false
set_option linter.unusedSimpArgs false
theorem numLv (P : Nat → Prop) (w : World) (g : Nat) (l : List Int) (b : Bool) (hI : Rd 98 P w g l b) (hb : isBytes l) (x : Int) (hx : numOf l = x) :
    Calls Try.prog 30 #[.pointer (some ⟨g, 0, none⟩)] w fun e w' => e = .returned (.int .i64 x) ∧ Lv w w' P g l.length (aft l, badOf l b) :=
  (num_calls' x P w g l b hI hb hx).mono (by
    rintro e w' ⟨rfl, h1, h2, h3⟩
    exact ⟨rfl, h1, aft_bytes hb, aft_len l hb, h2, h3⟩)
theorem textLv (P : Nat → Prop) (w : World) (g : Nat) (l : List Int) (b : Bool) (hI : Rd 98 P w g l b) (hb : isBytes l) :
    Calls Try.prog 31 #[.pointer (some ⟨g, 0, none⟩)] w fun e w' => e = .returned (.string (textOf l)) ∧ Lv w w' P g l.length (aftT l, badT l b) :=
  (text_calls P w g l b hI hb).mono (by
    rintro e w' ⟨rfl, h1, h2, h3⟩
    exact ⟨rfl, h1, aftT_bytes hb, aftT_len l hb, h2, h3⟩)
theorem eventLv (P : Nat → Prop) (w : World) (g : Nat) (l : List Int) (b : Bool) (hI : Rd 98 P w g l b) (hb : isBytes l) (hP : ∀ k, P k → k < w.heap.size) (r : S31 × Int × List Int × Bool) (hx : takeE l b = r) :
    Calls Try.prog 32 #[.pointer (some ⟨g, 0, none⟩)] w fun e w' => ∃ v2 v3, e = .returned (.tuple #[.agg #[.string r.1.f0, .string r.1.f1, v2, v3], .int .i64 r.2.1]) ∧ Kd.string.R 9 w' w.heap.size (fun _ => True) v2 r.1.f2 ∧ k90.R 90 w' w.heap.size (fun _ => True) v3 r.1.f3 ∧ Lv w w' P g l.length r.2.2 := by
  obtain ⟨x, c, l', b'⟩ := r
  refine (take_walk P w g l b hI hb hP x c l' b' hx).mono ?_
  rintro e w' ⟨v2, v3, rfl, h2, h3, h4, h5, h6, h7⟩
  have hl := (takeE_left l b hb).2
  rw [hx] at hl
  exact ⟨v2, v3, rfl, h2, h3, h4, h5, hl, h6, h7⟩
theorem R_turnT {α : Type} {d : Kd α} {e : Nat} {w w1 : World} {base g t : Nat} {v : Value} {xs : List α} {cells : Array Value} (h : Kd.R d e w base (fun _ => True) v xs) (hb : w.heap[g]? = some (.cells cells t (0, 0))) (ht : ∀ q, q ∈ e :: d.E → q ≠ t) (hk : KeepBut w w1 g none) : Kd.R d e w1 base (fun _ => True) v xs :=
  Kd.R_mono (Kd.R_keep (Kd.R_bound (Kd.R_types h hb ht)) hk (fun k hk => hk.1.2)) (fun _ _ => trivial)
/-- What script.Take holds: the reader, the step that it will give (Z), the one that it fills (X). -/
structure Tw (w w1 W : World) (P : Nat → Prop) (g Z X n : Nat) (q : List Int × Bool) (cs : Array Value) : Prop where
  hL : Lv w1 W P g n q
  hZ : W.heap[Z]? = some (.cells #[.int .i64 0, .int .i64 0, .int .i64 0, .int .i64 0, .string ⟨#[]⟩, .string ⟨#[]⟩, .string ⟨#[]⟩, .slice none 0 0, .slice none 0 0, .slice none 0 0] 36 (0, 0))
  hX : W.heap[X]? = some (.cells cs 36 (0, 0))
  hB : Below w.heap.size w W
  z1 : w.heap.size ≤ Z
  z2 : Z < w1.heap.size
  z3 : Z ≠ g
  x1 : w1.heap.size ≤ X
  g1 : w.heap.size ≤ g
  g2 : g < w1.heap.size
  p1 : ∀ k, P k → k < w1.heap.size
  s1 : w.heap.size ≤ w1.heap.size
section
variable {w w1 W W' : World} {P : Nat → Prop} {g Z X n : Nat} {q : List Int × Bool} {cs : Array Value}
theorem Tw.hP (h : Tw w w1 W P g Z X n q cs) : ∀ k, P k → k < W.heap.size := fun k hk => Nat.lt_of_lt_of_le (h.p1 k hk) h.hL.keep.1
theorem Tw.lo (h : Tw w w1 W P g Z X n q cs) : w.heap.size ≤ W.heap.size := h.hB.size
theorem Tw.read (h : Tw w w1 W P g Z X n q cs) {m : Nat} {q' : List Int × Bool} (hl : Lv W W' P g m q') (hm : m ≤ n) : Tw w w1 W' P g Z X n q' cs :=
  ⟨h.hL.trans hl hm, hl.keep.blk h.hZ h.z3 (by simp), hl.keep.blk h.hX (by have := h.x1; have := h.g2; omega) (by simp), below_weaken h.hB h.g1 hl.below, h.z1, h.z2, h.z3, h.x1, h.g1, h.g2, h.p1, h.s1⟩
theorem Tw.up (h : Tw w w1 W P g Z X n q cs) (hb : Below W.heap.size W W') : Tw w w1 W' P g Z X n q cs :=
  ⟨h.hL.up hb, blk_below h.hZ hb, blk_below h.hX hb, below_step h.hB hb, h.z1, h.z2, h.z3, h.x1, h.g1, h.g2, h.p1, h.s1⟩
theorem Tw.set (h : Tw w w1 W P g Z X n q cs) (i : Nat) (u : Value) {cs' : Array Value} (e : cs.setIfInBounds i u = cs') : Tw w w1 (W.setCell ⟨X, i, none⟩ u) P g Z X n q cs' :=
  ⟨h.hL.set h.g2 h.p1 h.x1 i u, blk_far h.hZ (p := ⟨X, i, none⟩) (by have := h.x1; have := h.z2; show Z ≠ X; omega) u, blk_put h.hX i u e, h.hB.setCell (p := ⟨X, i, none⟩) (by have := h.x1; have := h.s1; show w.heap.size ≤ X; omega) u, h.z1, h.z2, h.z3, h.x1, h.g1, h.g2, h.p1, h.s1⟩
theorem Tw.blk (h : Tw w w1 W P g Z X n q cs) : ∃ c, W.heap[g]? = some (.cells c 98 (0, 0)) := by
  obtain ⟨A, c, hb, _⟩ := h.hL.rd
  exact ⟨_, hb⟩
theorem Tw.turnR {α : Type} {d : Kd α} {e m : Nat} {v : Value} {xs : List α} {q' : List Int × Bool} (h : Tw w w1 W P g Z X n q cs) (hr : Kd.R d e W w.heap.size (fun _ => True) v xs) (hl : Lv W W' P g m q') (ht : ∀ q, q ∈ e :: d.E → q ≠ 98) : Kd.R d e W' w.heap.size (fun _ => True) v xs := by
  obtain ⟨c, hb⟩ := h.blk
  exact R_turnT hr hb ht hl.keep
end
/-- The bytes behind so many numbers. -/
def stl (l : List Int) : Nat → List Int
  | 0 => l
  | i + 1 => aft (stl l i)
def stb (l : List Int) : Nat → Bool
  | 0 => false
  | i + 1 => badOf (stl l i) (stb l i)
def csN (l : List Int) (i : Nat) : Array Value := #[.int .i64 (if 0 < i then numOf (stl l 0) else 0), .int .i64 (if 1 < i then numOf (stl l 1) else 0), .int .i64 (if 2 < i then numOf (stl l 2) else 0), .int .i64 (if 3 < i then numOf (stl l 3) else 0), .string ⟨#[]⟩, .string ⟨#[]⟩, .string ⟨#[]⟩, .slice none 0 0, .slice none 0 0, .slice none 0 0]
end Go.Proofs.Ytocpcnmnhckcpaa.Prt

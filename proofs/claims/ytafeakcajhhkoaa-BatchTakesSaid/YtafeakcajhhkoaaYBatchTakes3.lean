/- Functions of the program, told as plain functions, with their walks: written by a program of this claim's out of the translation. Predicates over rows: slices.ContainsFunc at a closure; the closures of event.May. Rows of texts that rise, the names of fields; the closures of event.May. What is wrong with an event: the walk of event.May. The contract of event.May, in the form that the printed functions ask. evcode.Take: what it answers, and its walk. The reference's names, in closed form. The reference's tags, in closed form. The reference's rows of texts: all are tags, they rise, they are the same: in closed form. -/
import Derived.Shelf.Abstract
import Derived.Test.YtafeakcajhhkoaaYBatchTakes1
import Derived.Test.YtafeakcajhhkoaaYBatchTakes2
namespace Go.Proofs.Ytafeakcajhhkoaa.Prt
open Go.RowKit Go.Proofs.YtafeakcajhhkoaaW.PrintWords Go.Proofs.YtafeakcajhhkoaaW.PrintLast Go.Proofs.YtafeakcajhhkoaaW.PrintMore
attribute [local go_sem] max2_int min2_int max_two min_two max_three min_three max_four min_four   -- for this text's walks alone
set_option linter.unusedVariables false
set_option linter.unusedSimpArgs false

def event_names.l0 : Nat → List ByteArray → List (S50) → Int → Int → Option (List ByteArray)
  | 0, _, _, _, _ => none
  | k + 1, x3, x6, x7, x8 => if x8 < x7 then (if 0 ≤ x8 then (if x8 < (x6.length : Int) then (if x3.length < 8796093022208 then (event_names.l0 k (x3 ++ [(rd_T50 x6 x8).f0]) x6 x7 (wrap64 (x8 + 1))) else (none)) else (none)) else (none)) else (some x3)
def event_names.f (k : Nat) (l0 : List (S50)) : Option (List ByteArray) := event_names.l0 k ([] : List ByteArray) l0 (l0.length : Int) 0
set_option maxHeartbeats 8000000 in
set_option maxRecDepth 100000 in
theorem event_names.calls (k : Nat) (A0 : Option Addr) (c0 : Nat) (l0 : List (S50)) (r : List ByteArray) (w : World) (hr0 : Kd.C k50 w A0 l0.length l0) (hc0 : l0.length ≤ c0) (h : event_names.f k l0 = some r) :
    Calls Try.prog 35 #[.slice A0 l0.length c0] w fun e w' => ∃ v0_ : Value, e = .returned (v0_) ∧ Kd.R Kd.string 9 w' w.heap.size (fun _ => True) v0_ r ∧ Below w.heap.size w w' := by
  have hu50 := Try.underlying50
  have HR0 := Aside0.mk hr0
  have HC0 := Aside0.mk hc0
  clear hr0 hc0
  have HB := Aside0.mk (Below.refl w.heap.size w)
  have H : (event_names.l0 k ([] : List ByteArray) l0 (l0.length : Int) 0) = some r := h
  clear h
  have H' := Aside0.mk H
  clear H
  go_enter Try.func35, Try.ntmps35
  go_wp2
  go_loopg [3, 8] k (fun kq v3 v8 w' => ∃ (x3_1 : List ByteArray) (x8_1 : Int), v8 = .int .i64 x8_1 ∧ Aside0 (event_names.l0 kq x3_1 l0 (l0.length : Int) x8_1 = some r) ∧ Aside0 (kq ≤ k) ∧ Aside0 (Kd.R Kd.string 9 w' w.heap.size (fun _ => True) v3 x3_1) ∧ Aside0 (Below w.heap.size w w'))
  case atStart => exact ⟨(([] : List ByteArray)), (0), (by first | rfl | (simp; done) | (simp [*]; done)), H', ⟨Nat.le_refl _⟩, ⟨by first | exact Kd.R_nil _ _ _ _ _ | exact Kd.N_nil _ _ _ _ _ | exact Kd.V_nil _ _ _ _ _ | exact Kd.Q_nil _ _ _ _ _ | exact Kd.S_nil _ _ _ _ _⟩, ⟨by repeat (first | (with_reducible first | exact HB.out | apply below_alloc | apply pw_below_drewN | apply below_drew1) | exact HB.out)⟩⟩
  case round =>
    clear H'
    obtain ⟨x3_1, x8_1, rfl, HA, HK1, HO_3, HB⟩ := hrel
    cases gk with
    | zero => exact absurd HA.out (by simp [event_names.l0])
    | succ k1 =>
      have H := HA.out
      clear HA
      simp only [event_names.l0] at H
      by_cases c2 : x8_1 < (l0.length : Int)
      · rw [if_pos c2] at H
        have c2b0 : decide (x8_1 < (l0.length : Int)) = true := decide_eq_true c2
        clear c2
        by_cases c3 : 0 ≤ x8_1
        · rw [if_pos c3] at H
          have c3b0 : decide (0 ≤ x8_1) = true := decide_eq_true c3
          clear c3
          by_cases c4 : x8_1 < (l0.length : Int)
          · rw [if_pos c4] at H
            have c4b0 : decide (x8_1 < (l0.length : Int)) = true := decide_eq_true c4
            clear c4
            by_cases c5 : x3_1.length < 8796093022208
            · rw [if_pos c5] at H
              have LMc5 := Aside0.mk c5
              clear c5
              obtain ⟨y104, hy104⟩ : ∃ y_ : List ByteArray, y_ = (x3_1 ++ [(rd_T50 l0 x8_1).f0]) := ⟨_, rfl⟩
              replace H : (event_names.l0 k1 y104 l0 (l0.length : Int) (wrap64 (x8_1 + 1))) = some r := by first | (rw [hy104]; with_reducible exact H) | (have H2_ := (Option.bind_some _ _).symm.trans H; rw [hy104]; with_reducible exact H2_) | (have H2_ := (Option.bind_some _ _).symm.trans H; with_reducible exact H2_) | with_reducible exact H | (rw [hy104]; exact H) | exact H
              have Ny104 := Aside0.mk hy104
              clear hy104
              have H' := Aside0.mk H
              clear H
              have p102 : 0 ≤ (x8_1 : Int) := of_decide_eq_true (by first | (with_reducible assumption) | assumption)
              have q102 : x8_1 < (l0.length : Int) := of_decide_eq_true (by first | (with_reducible assumption) | assumption)
              obtain ⟨ad102, e102, hx102_0, hx102_1⟩ := at_T50 HR0.out x8_1 p102 q102
              cases e102
              replace hx102_0 := (HB.out.cell (World.block_lt_of_cell? w _ hx102_0)).trans hx102_0
              replace hx102_1 := (HB.out.cell (World.block_lt_of_cell? w _ hx102_1)).trans hx102_1
              replace p102 := eq_true p102
              replace q102 := eq_true q102
              go_wp2_with (first | ((with_reducible refine gate_dst (N := 5) rfl ?_); refine box_event ?hg (N := 5) ?hd (cs := #[.string (⟨#[]⟩ : ByteArray), .int .i64 0]) (t := 50) ?hr ?_; (case hd => rfl); (case hg => rfl); (case hr => first | (go_simp; done) | (go_simp; rfl)); intro gb103 hg w6 hbox hb; have n0_ := Aside0.mk (Kd.R_below (by (with_reducible repeat (first | apply Kd.R_alloc | apply Kd.R_drewN | apply Kd.R_drew)); exact HO_3.out) hb); have n1_ := Aside0.mk (below_step (by repeat (first | (with_reducible first | exact HB.out | apply below_alloc | apply pw_below_drewN | apply below_drew1) | exact HB.out)) hb); have n2_ := Aside0.mk (hbox); have n3_ := Aside0.mk ((by rw [hg]; exact (below_size (by repeat (first | (with_reducible first | exact HB.out | apply below_alloc | apply pw_below_drewN | apply below_drew1) | exact HB.out))) : w.heap.size ≤ gb103)); have n4_ := Aside0.mk ((by rw [hg]; exact (below_size (by repeat (first | (with_reducible first | exact HB.out | apply below_alloc | apply pw_below_drewN | apply below_drew1) | exact HB.out))) : w.heap.size ≤ gb103)); clear HO_3; clear HB; have HO_3 := n0_; have HB := n1_; have BK103 := n2_; have GW103 := n3_; have GE103 := n4_; clear n0_ n1_ n2_ n3_ n4_; clear hb hbox hg; have hcz7_0 : w6.cell? ⟨gb103, 0, none⟩ = some (.string (⟨#[]⟩ : ByteArray)) := (blk_cell BK103.out 0).trans rfl; have hcz7_1 : w6.cell? ⟨gb103, 1, none⟩ = some (.int .i64 0) := (blk_cell BK103.out 1).trans rfl; have hfz7_0 := blk_frozen BK103.out 0; have hfz7_1 := blk_frozen BK103.out 1) | ((with_reducible refine gate_builtin (b := .append) (xs := #[.tmp 12, .tmp 15]) rfl ?_); at_builtin; refine Kd.R_append Kd.string (w0 := w) w.heap.size rfl (.tmp 12) (.tmp 15) 37 9 (.string ⟨#[]⟩) 16 rfl Try.underlying37 info9 rfl (by decide) (by omega) u3 x3_1 ((rd_T50 l0 x8_1).f0) [.string ((rd_T50 l0 x8_1).f0)] (fun _ => True) (fun _ => False) rfl (by first | (go_simp; done) | (go_simp; rfl)) ?aP (fun _ hk => hk.elim) ?aF ?aO ?aB ?aS ?aL ?_; (case aP => exact rfl); (case aB => exact (by repeat (first | (with_reducible first | exact HB.out | apply below_alloc | apply pw_below_drewN | apply below_drew1 | refine below_set ?_ GE103.out) | exact HB.out))); (case aF => exact (fun _ _ => trivial)); (case aO => exact (by (with_reducible repeat (first | apply Kd.R_alloc | apply Kd.R_drewN | apply Kd.R_drew)); exact Kd.R_mono (Kd.R_far (p := ⟨gb103, 1, none⟩) (Kd.R_far (p := ⟨gb103, 0, none⟩) (Kd.R_types HO_3.out BK103.out (by decide)) (fun _ hk => hk.2) (.string ((rd_T50 l0 x8_1).f0))) (fun _ hk => hk.2) (.int .i64 ((rd_T50 l0 x8_1).f1))) (fun _ hk => trivial))); (case aS => exact (below_size (by repeat (first | (with_reducible first | exact HB.out | apply below_alloc | apply pw_below_drewN | apply below_drew1 | refine below_set ?_ GE103.out) | exact HB.out)))); (case aL => have := LMc5.out; omega); intro v105 w8 ho hb hg hat; rw [← Ny104.out] at ho; have n0_ := Aside0.mk (blk_grown (g := gb103) (o := .cells #[.string ((rd_T50 l0 x8_1).f0), .int .i64 ((rd_T50 l0 x8_1).f1)] 50 (0, 0)) (by (with_reducible repeat (first | refine blk_drewN ?_ _ | refine blk_drew ?_ | refine blk_alloc ?_ _)); refine blk_put (cs := #[.string ((rd_T50 l0 x8_1).f0), .int .i64 0]) ?_ 1 _ rfl; (with_reducible repeat (first | refine blk_drewN ?_ _ | refine blk_drew ?_ | refine blk_alloc ?_ _)); refine blk_put (cs := #[.string (⟨#[]⟩ : ByteArray), .int .i64 0]) ?_ 0 _ rfl; (with_reducible repeat (first | refine blk_drewN ?_ _ | refine blk_drew ?_ | refine blk_alloc ?_ _)); exact BK103.out) hg (Kd.R_ne HO_3.out BK103.out (by decide))); have n1_ := Aside0.mk (hb); have n2_ := Aside0.mk (ho); clear BK103; clear HB; clear HO_3; have BK103 := n0_; have HB := n1_; have HO106 := n2_; clear n0_ n1_ n2_; clear ho hb hg hat))
              go_roundg k1
              case measure => have := HK1.out; omega
              case rel => exact ⟨(y104), (wrap64 (x8_1 + 1)), (by first | rfl | (simp; done) | (simp [*]; done)), H', ⟨by have := HK1.out; omega⟩, ⟨by (with_reducible repeat (first | apply Kd.R_alloc | apply Kd.R_drewN | apply Kd.R_drew)); exact HO106.out⟩, ⟨by repeat (first | (with_reducible first | exact HB.out | apply below_alloc | apply pw_below_drewN | apply below_drew1 | refine below_set ?_ GE103.out) | exact HB.out)⟩⟩
            · rw [if_neg c5] at H
              exact absurd H (by simp)
          · rw [if_neg c4] at H
            exact absurd H (by simp)
        · rw [if_neg c3] at H
          exact absurd H (by simp)
      · rw [if_neg c2] at H
        have c2b0 : decide (x8_1 < (l0.length : Int)) = false := decide_eq_false c2
        clear c2
        obtain rfl := Option.some.inj H
        go_wp2
        go_ret
        exact ⟨_, by first | rfl | (simp [errW_none, errW_some] <;> rfl) | (simp [*, errW_none, errW_some] <;> rfl), by (with_reducible repeat (first | apply Kd.R_alloc | apply Kd.R_drewN | apply Kd.R_drew)); exact HO_3.out, by repeat (first | (with_reducible first | exact HB.out | apply below_alloc | apply pw_below_drewN | apply below_drew1) | exact HB.out)⟩

end Go.Proofs.Ytafeakcajhhkoaa.Prt
namespace Go.Proofs.Ytafeakcajhhkoaa.Nam
open Go.RowKit Go.Proofs.YtafeakcajhhkoaaW.PrintWords Go.Proofs.YtafeakcajhhkoaaW.PrintLast Go.Proofs.YtafeakcajhhkoaaW.PrintMore Go.Proofs.Ytafeakcajhhkoaa.Num Go.Proofs.Ytafeakcajhhkoaa.Prt
set_option linter.unusedVariables false
set_option linter.unusedSimpArgs false

theorem take_any {α : Type} (p : α → Bool) (l : List α) (i : Nat) (h : i < l.length) (d : α) : (l.take (i + 1)).any p = ((l.take i).any p || p (l.getD i d)) := by
  rw [List.take_succ_eq_append_getElem h, List.any_append, List.getD_eq_getElem?_getD, List.getElem?_eq_getElem h]; simp
theorem take_any_all {α : Type} (p : α → Bool) (l : List α) (i : Nat) (h : l.length ≤ i) : (l.take i).any p = l.any p := by rw [List.take_of_length_le h]
theorem any_of_take {α : Type} {p : α → Bool} {l : List α} {i : Nat} (h : (l.take i).any p = true) : l.any p = true := by
  obtain ⟨x, hx, hp⟩ := List.any_eq_true.1 h
  exact List.any_eq_true.2 ⟨x, List.mem_of_mem_take hx, hp⟩
theorem getD_mem' {α : Type} {l : List α} {i : Nat} (h : i < l.length) (d : α) : l.getD i d ∈ l := by
  rw [List.getD_eq_getElem?_getD, List.getElem?_eq_getElem h]; exact List.getElem_mem h

/-- slices.IndexFunc over texts, at a closure that captured one variable. -/
theorem idxStr (p : ByteArray → Bool) (G : Nat) (q : Value) (A : Option Addr) (c : Nat) (l : List ByteArray) (w : World) (hC : Kd.C Kd.string w A l.length l)
    (hent : ∀ (xs : Array Value) (W : World), (callFunc G xs).run Try.prog W = .ok (.enter G xs) W)
    (hf : ∀ x ∈ l, ∀ w1, Below w.heap.size w w1 → Calls Try.prog G #[.string x, q] w1 fun e w2 => e = .returned (.bool (p x)) ∧ Below w1.heap.size w1 w2) :
    Calls Try.prog 53 #[.slice A l.length c, .func (.func G) #[] #[q]] w fun e w' => ∃ r : Int, e = .returned (.int .i64 r) ∧ decide (0 ≤ r) = l.any p ∧ Below w.heap.size w w' := by
  have HC := Aside0.mk hC
  have HF := Aside0.mk hf
  have hn := Kd.C_max hC
  clear hC hf
  go_enter Try.func53, Try.ntmps53
  go_wp2
  go_loopg [8] (l.length) (fun k v8 w' => ∃ i : Nat, v8 = .int .i64 (i : Int) ∧ Aside0 (i + k = l.length) ∧ Aside0 ((l.take i).any p = false) ∧ Aside0 (Below w.heap.size w w'))
  case atStart => exact ⟨0, rfl, ⟨by omega⟩, ⟨by simp⟩, ⟨Below.refl _ _⟩⟩
  case round =>
    obtain ⟨i, rfl, HE, HN, HB⟩ := hrel
    by_cases hlt : i < l.length
    · have hb1 : decide ((i : Int) < (l.length : Int)) = true := decide_eq_true (by omega)
      obtain ⟨ad, e_, hx⟩ := Kd.at_string (Kd.C_below HC.out HB.out) (i : Int) (by omega) (by omega)
      cases e_
      rw [Int.toNat_natCast] at hx
      obtain ⟨x, hx0⟩ : ∃ x, x = rdOf ByteArray.empty l (i : Int) := ⟨_, rfl⟩
      rw [← hx0] at hx
      have hxm : x ∈ l := by rw [hx0]; exact getD_mem' hlt _
      have hstep : (l.take (i + 1)).any p = p x := by rw [take_any p l i hlt ByteArray.empty, HN.out, hx0]; rfl
      have HS := Aside0.mk hstep
      have HCALL := Aside0.mk (HF.out x hxm wr HB.out)
      clear hx0 hxm hstep
      cases hp : p x with
      | true =>
        have HP := Aside0.mk hp
        clear hp
        go_wp2_with fail
        refine HCALL.out.mono ?_
        rintro e w2 ⟨rfl, hb2⟩
        rw [HP.out]
        have HB2 := Aside0.mk hb2
        clear hb2
        go_wp2
        go_ret
        refine ⟨_, rfl, ?_, below_step HB.out HB2.out⟩
        rw [any_of_take (HS.out.trans HP.out)]
        exact decide_eq_true (by omega)
      | false =>
        have HP := Aside0.mk hp
        clear hp
        go_wp2_with fail
        refine HCALL.out.mono ?_
        rintro e w2 ⟨rfl, hb2⟩
        rw [HP.out]
        have HB2 := Aside0.mk hb2
        clear hb2
        go_wp2
        go_roundg (l.length - (i + 1))
        case measure => have := HE.out; omega
        case rel => exact ⟨i + 1, by go_num, ⟨by have := HE.out; omega⟩, ⟨HS.out.trans HP.out⟩, ⟨below_step HB.out HB2.out⟩⟩
    · have hb1 : decide ((i : Int) < (l.length : Int)) = false := decide_eq_false (by omega)
      go_wp2
      go_ret
      refine ⟨_, rfl, ?_, HB.out⟩
      have := HN.out
      rw [take_any_all p l i (by omega)] at this
      rw [this]; rfl
/-- slices.IndexFunc over fields, at a closure that captured nothing. -/
theorem idxFld (p : S50 → Bool) (G : Nat) (A : Option Addr) (c : Nat) (l : List S50) (w : World) (hC : Kd.C k50 w A l.length l)
    (hent : ∀ (xs : Array Value) (W : World), (callFunc G xs).run Try.prog W = .ok (.enter G xs) W)
    (hf : ∀ x ∈ l, ∀ w1, Below w.heap.size w w1 → Calls Try.prog G #[.agg #[.string x.f0, .int .i64 x.f1]] w1 fun e w2 => e = .returned (.bool (p x)) ∧ Below w1.heap.size w1 w2) :
    Calls Try.prog 56 #[.slice A l.length c, .func (.func G) #[] #[]] w fun e w' => ∃ r : Int, e = .returned (.int .i64 r) ∧ decide (0 ≤ r) = l.any p ∧ Below w.heap.size w w' := by
  have HC := Aside0.mk hC
  have HF := Aside0.mk hf
  have hn := Kd.C_max hC
  clear hC hf
  have hu50 := Try.underlying50
  go_enter Try.func56, Try.ntmps56
  go_wp2
  go_loopg [8] (l.length) (fun k v8 w' => ∃ i : Nat, v8 = .int .i64 (i : Int) ∧ Aside0 (i + k = l.length) ∧ Aside0 ((l.take i).any p = false) ∧ Aside0 (Below w.heap.size w w'))
  case atStart => exact ⟨0, rfl, ⟨by omega⟩, ⟨by simp⟩, ⟨Below.refl _ _⟩⟩
  case round =>
    obtain ⟨i, rfl, HE, HN, HB⟩ := hrel
    by_cases hlt : i < l.length
    · have hb1 : decide ((i : Int) < (l.length : Int)) = true := decide_eq_true (by omega)
      obtain ⟨ad, e_, hx, hx1⟩ := at_T50 (Kd.C_below HC.out HB.out) (i : Int) (by omega) (by omega)
      cases e_
      rw [Int.toNat_natCast] at hx hx1
      obtain ⟨x, hx0⟩ : ∃ x, x = rd_T50 l (i : Int) := ⟨_, rfl⟩
      rw [← hx0] at hx hx1
      have hxm : x ∈ l := by rw [hx0]; exact getD_mem' hlt _
      have hstep : (l.take (i + 1)).any p = p x := by rw [take_any p l i hlt z50, HN.out, hx0]; rfl
      have HS := Aside0.mk hstep
      have HCALL := Aside0.mk (HF.out x hxm wr HB.out)
      clear hx0 hxm hstep
      cases hp : p x with
      | true =>
        have HP := Aside0.mk hp
        clear hp
        go_wp2_with fail
        refine HCALL.out.mono ?_
        rintro e w2 ⟨rfl, hb2⟩
        rw [HP.out]
        have HB2 := Aside0.mk hb2
        clear hb2
        go_wp2
        go_ret
        refine ⟨_, rfl, ?_, below_step HB.out HB2.out⟩
        rw [any_of_take (HS.out.trans HP.out)]
        exact decide_eq_true (by omega)
      | false =>
        have HP := Aside0.mk hp
        clear hp
        go_wp2_with fail
        refine HCALL.out.mono ?_
        rintro e w2 ⟨rfl, hb2⟩
        rw [HP.out]
        have HB2 := Aside0.mk hb2
        clear hb2
        go_wp2
        go_roundg (l.length - (i + 1))
        case measure => have := HE.out; omega
        case rel => exact ⟨i + 1, by go_num, ⟨by have := HE.out; omega⟩, ⟨HS.out.trans HP.out⟩, ⟨below_step HB.out HB2.out⟩⟩
    · have hb1 : decide ((i : Int) < (l.length : Int)) = false := decide_eq_false (by omega)
      go_wp2
      go_ret
      refine ⟨_, rfl, ?_, HB.out⟩
      have := HN.out
      rw [take_any_all p l i (by omega)] at this
      rw [this]; rfl

theorem contStr (p : ByteArray → Bool) (G : Nat) (q : Value) (A : Option Addr) (c : Nat) (l : List ByteArray) (w : World) (hC : Kd.C Kd.string w A l.length l)
    (hent : ∀ (xs : Array Value) (W : World), (callFunc G xs).run Try.prog W = .ok (.enter G xs) W)
    (hf : ∀ x ∈ l, ∀ w1, Below w.heap.size w w1 → Calls Try.prog G #[.string x, q] w1 fun e w2 => e = .returned (.bool (p x)) ∧ Below w1.heap.size w1 w2) :
    Calls Try.prog 38 #[.slice A l.length c, .func (.func G) #[] #[q]] w fun e w' => e = .returned (.bool (l.any p)) ∧ Below w.heap.size w w' := by
  have H := idxStr p G q A c l w hC hent hf
  clear hC hent hf
  go_enter Try.func38, Try.ntmps38
  go_wp2_with fail
  refine H.mono ?_
  rintro e w2 ⟨r, rfl, hd, hb⟩
  go_wp2
  go_ret
  exact ⟨by first | rw [hd] | rfl | assumption, hb⟩
theorem contFld (p : S50 → Bool) (G : Nat) (A : Option Addr) (c : Nat) (l : List S50) (w : World) (hC : Kd.C k50 w A l.length l)
    (hent : ∀ (xs : Array Value) (W : World), (callFunc G xs).run Try.prog W = .ok (.enter G xs) W)
    (hf : ∀ x ∈ l, ∀ w1, Below w.heap.size w w1 → Calls Try.prog G #[.agg #[.string x.f0, .int .i64 x.f1]] w1 fun e w2 => e = .returned (.bool (p x)) ∧ Below w1.heap.size w1 w2) :
    Calls Try.prog 42 #[.slice A l.length c, .func (.func G) #[] #[]] w fun e w' => e = .returned (.bool (l.any p)) ∧ Below w.heap.size w w' := by
  have H := idxFld p G  A c l w hC hent hf
  clear hC hent hf
  go_enter Try.func42, Try.ntmps42
  go_wp2_with fail
  refine H.mono ?_
  rintro e w2 ⟨r, rfl, hd, hb⟩
  go_wp2
  go_ret
  exact ⟨by first | rw [hd] | rfl | assumption, hb⟩

end Go.Proofs.Ytafeakcajhhkoaa.Nam
namespace Go.Proofs.Ytafeakcajhhkoaa.Prt
open Go.RowKit Go.Proofs.YtafeakcajhhkoaaW.PrintWords Go.Proofs.YtafeakcajhhkoaaW.PrintLast Go.Proofs.YtafeakcajhhkoaaW.PrintMore
attribute [local go_sem] max2_int min2_int max_two min_two max_three min_three max_four min_four   -- for this text's walks alone
set_option linter.unusedVariables false
set_option linter.unusedSimpArgs false

def event_May_1.f (a0_0 : ByteArray) (a0_1 : Int) : Option (Bool) := if a0_1 < (-1099511627776) then (some true) else (some (decide (a0_1 > 1099511627776)))
set_option maxHeartbeats 8000000 in
set_option maxRecDepth 100000 in
theorem event_May_1.calls (a0_0 : ByteArray) (a0_1 : Int) (r : Bool) (w : World) (h : event_May_1.f a0_0 a0_1 = some r) :
    Calls Try.prog 36 #[.agg #[.string a0_0, .int .i64 a0_1]] w fun e w' => e = .returned (.bool r) ∧ Below w.heap.size w w' := by
  have hu50 := Try.underlying50
  have HB := Aside0.mk (Below.refl w.heap.size w)
  have H : (if a0_1 < (-1099511627776) then (some true) else (some (decide (a0_1 > 1099511627776)))) = some r := h
  clear h
  by_cases c2 : a0_1 < (-1099511627776)
  · rw [if_pos c2] at H
    have c2b0 : decide (a0_1 < (-1099511627776)) = true := decide_eq_true c2
    clear c2
    obtain rfl := Option.some.inj H
    go_enter Try.func36, Try.ntmps36
    go_wp2_with (first | ((with_reducible refine gate_dst (N := 1) rfl ?_); refine box_event ?hg (N := 1) ?hd (cs := #[.string a0_0, .int .i64 a0_1]) (t := 50) ?hr ?_; (case hd => rfl); (case hg => rfl); (case hr => first | (go_simp; done) | (go_simp; rfl)); intro gb101 hg w3 hbox hb; have n0_ := Aside0.mk (below_step (by repeat (first | (with_reducible first | exact HB.out | apply below_alloc | apply pw_below_drewN | apply below_drew1) | exact HB.out)) hb); have n1_ := Aside0.mk (hbox); have n2_ := Aside0.mk ((by rw [hg]; exact (below_size (by repeat (first | (with_reducible first | exact HB.out | apply below_alloc | apply pw_below_drewN | apply below_drew1) | exact HB.out))) : w.heap.size ≤ gb101)); have n3_ := Aside0.mk ((by rw [hg]; exact (below_size (by repeat (first | (with_reducible first | exact HB.out | apply below_alloc | apply pw_below_drewN | apply below_drew1) | exact HB.out))) : w.heap.size ≤ gb101)); clear HB; have HB := n0_; have BK101 := n1_; have GW101 := n2_; have GE101 := n3_; clear n0_ n1_ n2_ n3_; clear hb hbox hg; have hcz4_0 : w3.cell? ⟨gb101, 0, none⟩ = some (.string a0_0) := (blk_cell BK101.out 0).trans rfl; have hcz4_1 : w3.cell? ⟨gb101, 1, none⟩ = some (.int .i64 a0_1) := (blk_cell BK101.out 1).trans rfl; have hfz4_0 := blk_frozen BK101.out 0; have hfz4_1 := blk_frozen BK101.out 1))
    go_ret
    exact ⟨by first | rfl | (simp [errW_none, errW_some] <;> rfl) | (simp [*, errW_none, errW_some] <;> rfl), by repeat (first | (with_reducible first | exact HB.out | apply below_alloc | apply pw_below_drewN | apply below_drew1 | refine below_set ?_ GE101.out) | exact HB.out)⟩
  · rw [if_neg c2] at H
    have c2b0 : decide (a0_1 < (-1099511627776)) = false := decide_eq_false c2
    clear c2
    obtain rfl := Option.some.inj H
    go_enter Try.func36, Try.ntmps36
    go_wp2_with (first | ((with_reducible refine gate_dst (N := 1) rfl ?_); refine box_event ?hg (N := 1) ?hd (cs := #[.string a0_0, .int .i64 a0_1]) (t := 50) ?hr ?_; (case hd => rfl); (case hg => rfl); (case hr => first | (go_simp; done) | (go_simp; rfl)); intro gb101 hg w5 hbox hb; have n0_ := Aside0.mk (below_step (by repeat (first | (with_reducible first | exact HB.out | apply below_alloc | apply pw_below_drewN | apply below_drew1) | exact HB.out)) hb); have n1_ := Aside0.mk (hbox); have n2_ := Aside0.mk ((by rw [hg]; exact (below_size (by repeat (first | (with_reducible first | exact HB.out | apply below_alloc | apply pw_below_drewN | apply below_drew1) | exact HB.out))) : w.heap.size ≤ gb101)); have n3_ := Aside0.mk ((by rw [hg]; exact (below_size (by repeat (first | (with_reducible first | exact HB.out | apply below_alloc | apply pw_below_drewN | apply below_drew1) | exact HB.out))) : w.heap.size ≤ gb101)); clear HB; have HB := n0_; have BK101 := n1_; have GW101 := n2_; have GE101 := n3_; clear n0_ n1_ n2_ n3_; clear hb hbox hg; have hcz6_0 : w5.cell? ⟨gb101, 0, none⟩ = some (.string a0_0) := (blk_cell BK101.out 0).trans rfl; have hcz6_1 : w5.cell? ⟨gb101, 1, none⟩ = some (.int .i64 a0_1) := (blk_cell BK101.out 1).trans rfl; have hfz6_0 := blk_frozen BK101.out 0; have hfz6_1 := blk_frozen BK101.out 1))
    go_ret
    exact ⟨by first | rfl | (simp [errW_none, errW_some] <;> rfl) | (simp [*, errW_none, errW_some] <;> rfl), by repeat (first | (with_reducible first | exact HB.out | apply below_alloc | apply pw_below_drewN | apply below_drew1 | refine below_set ?_ GE101.out) | exact HB.out)⟩

end Go.Proofs.Ytafeakcajhhkoaa.Prt
namespace Go.Proofs.Ytafeakcajhhkoaa.Prt
open Go.RowKit Go.Proofs.YtafeakcajhhkoaaW.PrintWords Go.Proofs.YtafeakcajhhkoaaW.PrintLast Go.Proofs.YtafeakcajhhkoaaW.PrintMore
attribute [local go_sem] max2_int min2_int max_two min_two max_three min_three max_four min_four   -- for this text's walks alone
set_option linter.unusedVariables false
set_option linter.unusedSimpArgs false

def event_rise.l0 : Nat → List ByteArray → List ByteArray → Int → Int → Option (Bool)
  | 0, _, _, _, _ => none
  | k + 1, x0, x5, x6, x7 => if x7 < x6 then (if 0 ≤ x7 then (if x7 < (x5.length : Int) then (if x7 > 0 then (if 0 ≤ (wrap64 (x7 - 1)) then (if (wrap64 (x7 - 1)) < (x0.length : Int) then (if ((Op.bytesLess ((rdOf ByteArray.empty x0 (wrap64 (x7 - 1))).toList) ((rdOf ByteArray.empty x5 x7).toList)) = true) then (event_rise.l0 k x0 x5 x6 (wrap64 (x7 + 1))) else (some false)) else (none)) else (none)) else (event_rise.l0 k x0 x5 x6 (wrap64 (x7 + 1)))) else (none)) else (none)) else (some true)
def event_rise.f (k : Nat) (l0 : List ByteArray) : Option (Bool) := event_rise.l0 k l0 l0 (l0.length : Int) 0
set_option maxHeartbeats 8000000 in
set_option maxRecDepth 100000 in
theorem event_rise.calls (k : Nat) (A0 : Option Addr) (c0 : Nat) (l0 : List ByteArray) (r : Bool) (w : World) (hr0 : Kd.C Kd.string w A0 l0.length l0) (hc0 : l0.length ≤ c0) (h : event_rise.f k l0 = some r) :
    Calls Try.prog 41 #[.slice A0 l0.length c0] w fun e w' => e = .returned (.bool r) ∧ Drawn0 w w' := by
  have HR0 := Aside0.mk hr0
  have HC0 := Aside0.mk hc0
  clear hr0 hc0
  have H : (event_rise.l0 k l0 l0 (l0.length : Int) 0) = some r := h
  clear h
  have H' := Aside0.mk H
  clear H
  go_enter Try.func41, Try.ntmps41
  go_wp2
  go_loopg [7] k (fun kq v7 w' => ∃ (x7_1 : Int), v7 = .int .i64 x7_1 ∧ Aside0 (event_rise.l0 kq l0 l0 (l0.length : Int) x7_1 = some r) ∧ Aside0 (kq ≤ k) ∧ Drawn0 w w')
  case atStart => exact ⟨(0), (by first | rfl | (simp; done) | (simp [*]; done)), H', ⟨Nat.le_refl _⟩, by repeat (first | exact Drawn0.refl _ | apply Drawn0.step)⟩
  case round =>
    clear H'
    obtain ⟨x7_1, rfl, HA, HK1, ⟨m1, rfl⟩⟩ := hrel
    cases gk with
    | zero => exact absurd HA.out (by simp [event_rise.l0])
    | succ k1 =>
      have H := HA.out
      clear HA
      simp only [event_rise.l0] at H
      by_cases c2 : x7_1 < (l0.length : Int)
      · rw [if_pos c2] at H
        have c2b0 : decide (x7_1 < (l0.length : Int)) = true := decide_eq_true c2
        clear c2
        by_cases c3 : 0 ≤ x7_1
        · rw [if_pos c3] at H
          have c3b0 : decide (0 ≤ x7_1) = true := decide_eq_true c3
          clear c3
          by_cases c4 : x7_1 < (l0.length : Int)
          · rw [if_pos c4] at H
            have c4b0 : decide (x7_1 < (l0.length : Int)) = true := decide_eq_true c4
            clear c4
            by_cases c5 : x7_1 > 0
            · rw [if_pos c5] at H
              have c5b0 : decide (0 < x7_1) = true := decide_eq_true c5
              clear c5
              obtain ⟨ji6, hji6⟩ : ∃ j_ : Int, (wrap64 (x7_1 - 1)) = j_ := ⟨_, rfl⟩
              replace H : (if 0 ≤ (ji6) then (if (ji6) < (l0.length : Int) then (if ((Op.bytesLess ((rdOf ByteArray.empty l0 (ji6)).toList) ((rdOf ByteArray.empty l0 x7_1).toList)) = true) then (event_rise.l0 k1 l0 l0 (l0.length : Int) (wrap64 (x7_1 + 1))) else (some false)) else (none)) else (none)) = some r := by first | (rw [hji6] at H; exact H) | (simp only [hji6] at H ⊢; exact H)
              have hji6w : (IntKind.i64.wrap (x7_1 - 1)) = ji6 := (i64_w _).trans hji6
              by_cases c7 : 0 ≤ (ji6)
              · rw [if_pos c7] at H
                have c7b0 : decide (0 ≤ (ji6)) = true := decide_eq_true c7
                clear c7
                by_cases c8 : (ji6) < (l0.length : Int)
                · rw [if_pos c8] at H
                  have c8b0 : decide ((ji6) < (l0.length : Int)) = true := decide_eq_true c8
                  clear c8
                  by_cases c9 : ((Op.bytesLess ((rdOf ByteArray.empty l0 (ji6)).toList) ((rdOf ByteArray.empty l0 x7_1).toList)) = true)
                  · rw [if_pos c9] at H
                    have c9b0 : (Op.bytesLess ((rdOf ByteArray.empty l0 (ji6)).toList) ((rdOf ByteArray.empty l0 x7_1).toList)) = true := c9
                    clear c9
                    have H' := Aside0.mk H
                    clear H
                    have p107 : 0 ≤ (x7_1 : Int) := of_decide_eq_true (by first | (with_reducible assumption) | assumption)
                    have q107 : x7_1 < (l0.length : Int) := of_decide_eq_true (by first | (with_reducible assumption) | assumption)
                    obtain ⟨ad107, e107, hx107_0⟩ := Kd.at_string HR0.out x7_1 p107 q107
                    cases e107
                    replace p107 := eq_true p107
                    replace q107 := eq_true q107
                    have p108 : 0 ≤ ((ji6) : Int) := of_decide_eq_true (by first | (with_reducible assumption) | assumption)
                    have q108 : (ji6) < (l0.length : Int) := of_decide_eq_true (by first | (with_reducible assumption) | assumption)
                    obtain ⟨ad108, e108, hx108_0⟩ := Kd.at_string HR0.out (ji6) p108 q108
                    obtain rfl : ad107 = ad108 := (by injection e108)
                    replace p108 := eq_true p108
                    replace q108 := eq_true q108
                    go_wp2
                    go_roundg k1
                    case measure => have := HK1.out; omega
                    case rel => exact ⟨(wrap64 (x7_1 + 1)), (by first | rfl | (simp; done) | (simp [*]; done)), H', ⟨by have := HK1.out; omega⟩, by repeat (first | exact Drawn0.refl _ | apply Drawn0.step)⟩
                  · rw [if_neg c9] at H
                    have c9b0 : (Op.bytesLess ((rdOf ByteArray.empty l0 (ji6)).toList) ((rdOf ByteArray.empty l0 x7_1).toList)) = false := by simpa using c9
                    clear c9
                    obtain rfl := Option.some.inj H
                    have p107 : 0 ≤ (x7_1 : Int) := of_decide_eq_true (by first | (with_reducible assumption) | assumption)
                    have q107 : x7_1 < (l0.length : Int) := of_decide_eq_true (by first | (with_reducible assumption) | assumption)
                    obtain ⟨ad107, e107, hx107_0⟩ := Kd.at_string HR0.out x7_1 p107 q107
                    cases e107
                    replace p107 := eq_true p107
                    replace q107 := eq_true q107
                    have p108 : 0 ≤ ((ji6) : Int) := of_decide_eq_true (by first | (with_reducible assumption) | assumption)
                    have q108 : (ji6) < (l0.length : Int) := of_decide_eq_true (by first | (with_reducible assumption) | assumption)
                    obtain ⟨ad108, e108, hx108_0⟩ := Kd.at_string HR0.out (ji6) p108 q108
                    obtain rfl : ad107 = ad108 := (by injection e108)
                    replace p108 := eq_true p108
                    replace q108 := eq_true q108
                    go_wp2
                    go_ret
                    exact ⟨by first | rfl | (simp; done) | (simp only [← hji6] <;> (first | rfl | simp)) | (simp [*]; done), by repeat (first | exact Drawn0.refl _ | apply Drawn0.step)⟩
                · rw [if_neg c8] at H
                  exact absurd H (by simp)
              · rw [if_neg c7] at H
                exact absurd H (by simp)
            · rw [if_neg c5] at H
              have c5b0 : decide (0 < x7_1) = false := decide_eq_false c5
              clear c5
              have H' := Aside0.mk H
              clear H
              have p107 : 0 ≤ (x7_1 : Int) := of_decide_eq_true (by first | (with_reducible assumption) | assumption)
              have q107 : x7_1 < (l0.length : Int) := of_decide_eq_true (by first | (with_reducible assumption) | assumption)
              obtain ⟨ad107, e107, hx107_0⟩ := Kd.at_string HR0.out x7_1 p107 q107
              cases e107
              replace p107 := eq_true p107
              replace q107 := eq_true q107
              go_wp2
              go_roundg k1
              case measure => have := HK1.out; omega
              case rel => exact ⟨(wrap64 (x7_1 + 1)), (by first | rfl | (simp; done) | (simp [*]; done)), H', ⟨by have := HK1.out; omega⟩, by repeat (first | exact Drawn0.refl _ | apply Drawn0.step)⟩
          · rw [if_neg c4] at H
            exact absurd H (by simp)
        · rw [if_neg c3] at H
          exact absurd H (by simp)
      · rw [if_neg c2] at H
        have c2b0 : decide (x7_1 < (l0.length : Int)) = false := decide_eq_false c2
        clear c2
        obtain rfl := Option.some.inj H
        go_wp2
        go_ret
        exact ⟨by first | rfl | (simp; done) | (simp [*]; done), by repeat (first | exact Drawn0.refl _ | apply Drawn0.step)⟩

end Go.Proofs.Ytafeakcajhhkoaa.Prt
namespace Go.Proofs.Ytafeakcajhhkoaa.Nam
open Go.RowKit Go.Proofs.YtafeakcajhhkoaaW.PrintWords Go.Proofs.YtafeakcajhhkoaaW.PrintLast Go.Proofs.YtafeakcajhhkoaaW.PrintMore Go.Proofs.Ytafeakcajhhkoaa.Num Go.Proofs.Ytafeakcajhhkoaa.Prt
set_option linter.unusedVariables false
set_option linter.unusedSimpArgs false

def lessS (a b : ByteArray) : Bool := Op.bytesLess a.toList b.toList
def riseB : List ByteArray → Bool
  | a :: b :: r => lessS a b && riseB (b :: r)
  | _ => true
theorem wrapI {n : Int} (h0 : -9223372036854775808 ≤ n) (h1 : n ≤ 9223372036854775807) : wrap64 n = n := by unfold wrap64; omega
theorem drop_two {α : Type} (l : List α) (i : Nat) (d : α) (h : i + 1 < l.length) : l.drop i = l.getD i d :: l.getD (i + 1) d :: l.drop (i + 2) := by
  rw [List.drop_eq_getElem_cons (by omega), List.drop_eq_getElem_cons h, List.getD_eq_getElem?_getD, List.getElem?_eq_getElem (by omega), List.getD_eq_getElem?_getD, List.getElem?_eq_getElem h]; rfl
theorem rise_step (l : List ByteArray) (i : Nat) (h : i + 1 < l.length) : riseB (l.drop i) = (lessS (l.getD i ByteArray.empty) (l.getD (i + 1) ByteArray.empty) && riseB (l.drop (i + 1))) := by
  rw [drop_two l i ByteArray.empty h, riseB]
  congr 2
  rw [List.drop_eq_getElem_cons h, List.getD_eq_getElem?_getD, List.getElem?_eq_getElem h]; rfl
theorem rise_end (l : List ByteArray) (i : Nat) (h : l.length ≤ i + 1) : riseB (l.drop i) = true := by
  match hl : l.drop i with
  | [] => rfl
  | [a] => rfl
  | a :: b :: r =>
    have := congrArg List.length hl
    rw [List.length_drop] at this
    simp only [List.length_cons] at this
    omega
theorem rise_loop (l : List ByteArray) (hl : l.length ≤ 9223372036854775807) : ∀ (d i k : Nat), i + 1 + d = l.length → d < k → event_rise.l0 k l l (l.length : Int) ((i + 1 : Nat) : Int) = some (riseB (l.drop i)) := by
  intro d
  induction d with
  | zero =>
    intro i k hi hk
    obtain ⟨k, rfl⟩ : ∃ m, k = m + 1 := ⟨k - 1, by omega⟩
    rw [event_rise.l0, if_neg (by omega), rise_end l i (by omega)]
  | succ d ih =>
    intro i k hi hk
    obtain ⟨k, rfl⟩ : ∃ m, k = m + 1 := ⟨k - 1, by omega⟩
    have e1 : wrap64 (((i + 1 : Nat) : Int) - 1) = (i : Int) := by rw [wrapI (by omega) (by omega)]; omega
    have e2 : wrap64 (((i + 1 : Nat) : Int) + 1) = ((i + 1 + 1 : Nat) : Int) := by rw [wrapI (by omega) (by omega)]; omega
    rw [event_rise.l0, if_pos (by omega), if_pos (by omega), if_pos (by omega), if_pos (by omega), e1, e2, if_pos (by omega), if_pos (by omega), rise_step l i (by omega)]
    have e3 : Op.bytesLess (rdOf ByteArray.empty l (i : Int)).toList (rdOf ByteArray.empty l ((i + 1 : Nat) : Int)).toList = lessS (l.getD i ByteArray.empty) (l.getD (i + 1) ByteArray.empty) := rfl
    rw [e3]
    cases hs : lessS (l.getD i ByteArray.empty) (l.getD (i + 1) ByteArray.empty) with
    | true => rw [if_pos rfl, ih (i + 1) k (by omega) (by omega)]; rfl
    | false => rw [if_neg (by decide)]; rfl
theorem rise_val (l : List ByteArray) (hl : l.length ≤ 9223372036854775807) : event_rise.f (l.length + 1) l = some (riseB l) := by
  unfold event_rise.f
  cases h : l.length with
  | zero =>
    obtain rfl := List.eq_nil_of_length_eq_zero h
    rfl
  | succ n =>
    have e2 : wrap64 (0 + 1) = ((0 + 1 : Nat) : Int) := by rw [wrapI (by omega) (by omega)]; rfl
    rw [event_rise.l0, if_pos (by omega), if_pos (by omega), if_pos (by omega), if_neg (by omega), e2, ← h, rise_loop l hl n 0 (l.length) (by omega) (by omega)]
    rfl
theorem names_loop (l : List S50) (hl : l.length < 8796093022208) : ∀ (d i k : Nat) (acc : List ByteArray), i + d = l.length → acc.length = i → d < k → event_names.l0 k acc l (l.length : Int) (i : Int) = some (acc ++ (l.drop i).map (·.f0)) := by
  intro d
  induction d with
  | zero =>
    intro i k acc hi ha hk
    obtain ⟨k, rfl⟩ : ∃ m, k = m + 1 := ⟨k - 1, by omega⟩
    rw [event_names.l0, if_neg (by omega), List.drop_eq_nil_of_le (by omega)]; simp
  | succ d ih =>
    intro i k acc hi ha hk
    obtain ⟨k, rfl⟩ : ∃ m, k = m + 1 := ⟨k - 1, by omega⟩
    have e2 : wrap64 ((i : Int) + 1) = ((i + 1 : Nat) : Int) := by rw [wrapI (by omega) (by omega)]; omega
    rw [event_names.l0, if_pos (by omega), if_pos (by omega), if_pos (by omega), if_pos (by omega), e2, ih (i + 1) k _ (by omega) (by simp [ha]) (by omega)]
    have e3 : l.drop i = rd_T50 l (i : Int) :: l.drop (i + 1) := by
      rw [List.drop_eq_getElem_cons (by omega)]
      unfold rd_T50
      rw [Int.toNat_natCast, List.getD_eq_getElem?_getD, List.getElem?_eq_getElem (by omega)]; rfl
    rw [e3]; simp
theorem names_val (l : List S50) (hl : l.length < 8796093022208) : event_names.f (l.length + 1) l = some (l.map (·.f0)) := by
  unfold event_names.f
  rw [show (0 : Int) = ((0 : Nat) : Int) from rfl, names_loop l hl l.length 0 (l.length + 1) [] (by omega) rfl (by omega)]; rfl
def overB (x : S50) : Bool := decide (x.f1 < -1099511627776 ∨ 1099511627776 < x.f1)
theorem over_val (x : S50) : event_May_1.f x.f0 x.f1 = some (overB x) := by
  unfold event_May_1.f overB
  split
  · rw [decide_eq_true (by omega)]
  · congr 1; rw [Bool.eq_iff_iff, decide_eq_true_iff, decide_eq_true_iff]; omega
/-- Whether bytes are a tag: a name, a colon, a name. -/
def tagL (l : List Int) : Bool := mayL (l.takeWhile fun c => c != 58) && match l.dropWhile fun c => c != 58 with
  | [] => false
  | _ :: v => mayL v
def tagB (s : ByteArray) : Bool := tagL (bytesOf s)
theorem take58 : ∀ (a b : List Int), (58 : Int) ∉ a → ((a ++ 58 :: b).takeWhile fun c => c != 58) = a ∧ ((a ++ 58 :: b).dropWhile fun c => c != 58) = 58 :: b := by
  intro a b
  induction a with
  | nil => intro _; simp
  | cons c r ih =>
    intro h
    rw [List.mem_cons, not_or] at h
    have hc : (c != 58) = true := bne_iff_ne.2 (fun e => h.1 e.symm)
    obtain ⟨h1, h2⟩ := ih h.2
    simp only [List.cons_append, List.takeWhile_cons, List.dropWhile_cons, hc, if_true, h1, h2]
    exact ⟨trivial, trivial⟩
theorem drop58 : ∀ (a : List Int), (58 : Int) ∉ a → (a.dropWhile fun c => c != 58) = [] := by
  intro a
  induction a with
  | nil => intro _; rfl
  | cons c r ih =>
    intro h
    rw [List.mem_cons, not_or] at h
    have hc : (c != 58) = true := bne_iff_ne.2 (fun e => h.1 e.symm)
    simp only [List.dropWhile_cons, hc, if_true]
    exact ih h.2
theorem bytes_cat (k v : ByteArray) : bytesOf (k ++ (⟨#[58]⟩ : ByteArray) ++ v) = bytesOf k ++ 58 :: bytesOf v := by
  rw [bytes_append, bytes_append, List.append_assoc]; rfl
theorem tagL_cut (a b : List Int) (h : (58 : Int) ∉ a) : tagL (a ++ 58 :: b) = (mayL a && mayL b) := by
  unfold tagL
  obtain ⟨h1, h2⟩ := take58 a b h
  rw [h1, h2]
theorem tagL_no (a : List Int) (h : (58 : Int) ∉ a) : tagL a = false := by
  unfold tagL
  rw [drop58 a h]; simp
theorem tagB_iff (s : ByteArray) : tagB s = true ↔ IsTag s := by
  unfold tagB
  constructor
  · intro h
    rcases split58 s with hn | ⟨k, v, hs, hk, hz⟩
    · rw [tagL_no _ hn] at h; cases h
    · rw [hs, bytes_cat, tagL_cut _ _ hk, Bool.and_eq_true] at h
      exact ⟨k, v, hs, h.1, h.2⟩
  · rintro ⟨k, v, hs, h1, h2⟩
    rw [hs, bytes_cat, tagL_cut _ _ (may_no58 h1), h1, h2]; rfl
theorem mayTag_calls (s : ByteArray) (w : World) (hz : s.size ≤ 9223372036854775807) :
    Calls Try.prog 40 #[.string s] w fun e w' => e = .returned (.bool (tagB s)) ∧ Below w.heap.size w w' := by
  by_cases h : IsTag s
  · rw [(tagB_iff s).2 h]; exact mayTagYes s w h hz
  · have e : tagB s = false := by cases hb : tagB s with | false => rfl | true => exact absurd ((tagB_iff s).1 hb) h
    rw [e]; exact mayTagNo s w h hz

theorem not_calls (G : Nat) (w : World) : Calls Try.prog 39 #[.func (.func G) #[] #[]] w fun e w' => ∃ g : Nat, e = .returned (.func (.func 54) #[] #[.pointer (some ⟨g, 0, none⟩)]) ∧ w'.cell? ⟨g, 0, none⟩ = some (.func (.func G) #[] #[]) ∧ g < w'.heap.size ∧ Below w.heap.size w w' := by
  go_enter Try.func39, Try.ntmps39
  go_wp2
  go_ret
  refine ⟨_, rfl, ?_, ?_, below_alloc (Below.refl _ _) _⟩
  · exact (blk_cell (heap_alloc_new w _) 0).trans rfl
  · exact blk_lt (heap_alloc_new w _)
theorem notTag (s : ByteArray) (g : Nat) (w : World) (hs : s.size ≤ 9223372036854775807) (hg : w.cell? ⟨g, 0, none⟩ = some (.func (.func 40) #[] #[])) :
    Calls Try.prog 54 #[.string s, .pointer (some ⟨g, 0, none⟩)] w fun e w' => e = .returned (.bool (!tagB s)) ∧ Below w.heap.size w w' := by
  have H := Aside0.mk (mayTag_calls s w hs)
  go_enter Try.func54, Try.ntmps54
  go_wp2_with fail
  refine H.out.mono ?_
  rintro e w2 ⟨rfl, hb⟩
  go_wp2
  go_ret
  exact ⟨rfl, hb⟩
theorem notTagC (l : List ByteArray) (A : Option Addr) (c : Nat) (g : Nat) (w : World) (hC : Kd.C Kd.string w A l.length l) (hs : ∀ s ∈ l, s.size ≤ 9223372036854775807) (hl : g < w.heap.size) (hg : w.cell? ⟨g, 0, none⟩ = some (.func (.func 40) #[] #[])) :
    Calls Try.prog 38 #[.slice A l.length c, .func (.func 54) #[] #[.pointer (some ⟨g, 0, none⟩)]] w fun e w' => e = .returned (.bool (l.any fun s => !tagB s)) ∧ Below w.heap.size w w' :=
  contStr (fun s => !tagB s) _ _ A c l w hC (enters_of Try.func54 (by kernel_rfl) rfl) (fun x hx w1 hb => notTag x g w1 (hs x hx) ((hb.cell hl).trans hg))
theorem notName (s : ByteArray) (g : Nat) (w : World) (hs : s.size ≤ 9223372036854775807) (hg : w.cell? ⟨g, 0, none⟩ = some (.func (.func 37) #[] #[])) :
    Calls Try.prog 54 #[.string s, .pointer (some ⟨g, 0, none⟩)] w fun e w' => e = .returned (.bool (!mayL (bytesOf s))) ∧ Below w.heap.size w w' := by
  have H := Aside0.mk (may_calls s w hs)
  go_enter Try.func54, Try.ntmps54
  go_wp2_with fail
  refine H.out.mono ?_
  rintro e w2 ⟨rfl, hb⟩
  go_wp2
  go_ret
  exact ⟨rfl, hb⟩
theorem notNameC (l : List ByteArray) (A : Option Addr) (c : Nat) (g : Nat) (w : World) (hC : Kd.C Kd.string w A l.length l) (hs : ∀ s ∈ l, s.size ≤ 9223372036854775807) (hl : g < w.heap.size) (hg : w.cell? ⟨g, 0, none⟩ = some (.func (.func 37) #[] #[])) :
    Calls Try.prog 38 #[.slice A l.length c, .func (.func 54) #[] #[.pointer (some ⟨g, 0, none⟩)]] w fun e w' => e = .returned (.bool (l.any fun s => !mayL (bytesOf s))) ∧ Below w.heap.size w w' :=
  contStr (fun s => !mayL (bytesOf s)) _ _ A c l w hC (enters_of Try.func54 (by kernel_rfl) rfl) (fun x hx w1 hb => notName x g w1 (hs x hx) ((hb.cell hl).trans hg))
theorem overC (l : List S50) (A : Option Addr) (c : Nat) (w : World) (hC : Kd.C k50 w A l.length l) :
    Calls Try.prog 42 #[.slice A l.length c, .func (.func 36) #[] #[]] w fun e w' => e = .returned (.bool (l.any overB)) ∧ Below w.heap.size w w' :=
  contFld overB _ A c l w hC (enters_of Try.func36 (by kernel_rfl) rfl) (fun x hx w1 hb => event_May_1.calls x.f0 x.f1 _ w1 (over_val x))
end Go.Proofs.Ytafeakcajhhkoaa.Nam
namespace Go.Proofs.Ytafeakcajhhkoaa.Nam
open Go.RowKit Go.Proofs.YtafeakcajhhkoaaW.PrintWords Go.Proofs.YtafeakcajhhkoaaW.PrintLast Go.Proofs.YtafeakcajhhkoaaW.PrintMore Go.Proofs.Ytafeakcajhhkoaa.Num Go.Proofs.Ytafeakcajhhkoaa.Prt
set_option linter.unusedVariables false
set_option linter.unusedSimpArgs false

/-- What is wrong with an event. -/
def mayE (s t : ByteArray) (tags : List ByteArray) (fl : List S50) : Int :=
  if mayL (bytesOf s) = false ∨ mayL (bytesOf t) = false then 5 else if 6 < tags.length ∨ 4 < fl.length then 3
  else if (tags.any fun s => !tagB s) = true ∨ ((fl.map (·.f0)).any fun s => !mayL (bytesOf s)) = true then 5
  else if riseB tags = false ∨ riseB (fl.map (·.f0)) = false ∨ fl.any overB = true then 1 else 0
theorem fnAt_below {g : Nat} {w w1 : World} {v : Value} (h : g < w.heap.size ∧ w.cell? ⟨g, 0, none⟩ = some v) (hb : Below w.heap.size w w1) : g < w1.heap.size ∧ w1.cell? ⟨g, 0, none⟩ = some v :=
  ⟨Nat.lt_of_lt_of_le h.1 hb.size, (hb.cell h.1).trans h.2⟩
theorem notTagB (b : Bool) (l : List ByteArray) (h : (l.any fun s => !tagB s) = b) (A : Option Addr) (c : Nat) (g : Nat) (w : World) (hC : Kd.C Kd.string w A l.length l) (hs : ∀ s ∈ l, s.size ≤ 9223372036854775807) (hl : g < w.heap.size) (hg : w.cell? ⟨g, 0, none⟩ = some (.func (.func 40) #[] #[])) :
    Calls Try.prog 38 #[.slice A l.length c, .func (.func 54) #[] #[.pointer (some ⟨g, 0, none⟩)]] w fun e w' => e = .returned (.bool b) ∧ Below w.heap.size w w' := h ▸ notTagC l A c g w hC hs hl hg
theorem notNameB (b : Bool) (l : List ByteArray) (h : (l.any fun s => !mayL (bytesOf s)) = b) (A : Option Addr) (c : Nat) (g : Nat) (w : World) (hC : Kd.C Kd.string w A l.length l) (hs : ∀ s ∈ l, s.size ≤ 9223372036854775807) (hl : g < w.heap.size) (hg : w.cell? ⟨g, 0, none⟩ = some (.func (.func 37) #[] #[])) :
    Calls Try.prog 38 #[.slice A l.length c, .func (.func 54) #[] #[.pointer (some ⟨g, 0, none⟩)]] w fun e w' => e = .returned (.bool b) ∧ Below w.heap.size w w' := h ▸ notNameC l A c g w hC hs hl hg
open Go.Proofs.YtafeakcajhhkoaaW.PrintLast
def D22.T7 : Bool × List (List Nat × List Nat) := (true, [([], []), ([0], [0]), ([], []), ([1, 2, 2], [1, 2]), ([3, 3], [3]), ([4], [4]), ([4, 4], [4]), ([5, 6, 6, 4], [4, 5, 6]), ([4, 7], [4, 7]), ([8, 7], [8])])
def D22.B7 : List Nat := [0, 1, 0, 7, 15, 31, 31, 127, 255, 511]
theorem D22.tab7 : rtab .any (opsOf Try.f22 7) = D22.T7 := by kernel_rfl
theorem D22.bits7 : waitsOk D22.T7.2 D22.B7 = true := by kernel_rfl
set_option maxHeartbeats 4000000 in
theorem eventMay_calls (s t : ByteArray) (A2 A3 : Option Addr) (c2 c3 : Nat) (l2 : List ByteArray) (l3 : List S50) (w : World) (hr2 : Kd.C Kd.string w A2 l2.length l2) (hc2 : l2.length ≤ c2) (hr3 : Kd.C k50 w A3 l3.length l3) (hc3 : l3.length ≤ c3)
    (hs : s.size ≤ 9223372036854775807) (ht : t.size ≤ 9223372036854775807) (hzt : ∀ x ∈ l2, x.size ≤ 9223372036854775807) (hzf : ∀ x ∈ l3, x.f0.size ≤ 9223372036854775807) (hl3 : l3.length < 8796093022208) :
    Calls Try.prog 22 #[.agg #[.string s, .string t, .slice A2 l2.length c2, .slice A3 l3.length c3]] w fun e w' => e = .returned (.int .i64 (mayE s t l2 l3)) ∧ Below w.heap.size w w' := by
  have HR2 := Aside0.mk hr2
  have HR3 := Aside0.mk hr3
  have HC2 := Aside0.mk hc2
  have HC3 := Aside0.mk hc3
  have HZT := Aside0.mk hzt
  have hm2 := Kd.C_max hr2
  have HB := Aside0.mk (Below.refl w.heap.size w)
  have hu40 := Try.underlying40
  obtain ⟨nm, hnm⟩ : ∃ nm : List ByteArray, nm = l3.map (·.f0) := ⟨_, rfl⟩
  have HNM := Aside0.mk hnm
  have HNV := Aside0.mk ((names_val l3 hl3).trans (congrArg some hnm.symm))
  have hln : nm.length = l3.length := by rw [hnm, List.length_map]
  have HZF : Aside0 (∀ x ∈ nm, x.size ≤ 9223372036854775807) := ⟨fun x hx => by rw [hnm] at hx; obtain ⟨y, hy, rfl⟩ := List.mem_map.1 hx; exact hzf y hy⟩
  obtain ⟨E, hE⟩ : ∃ E, E = mayE s t l2 l3 := ⟨_, rfl⟩
  rw [← hE]
  have HE := Aside0.mk hE
  have HLN := Aside0.mk hln
  clear hr2 hr3 hc2 hc3 hzt hzf hnm hE hln
  go_enter Try.func22, Try.ntmps22
  go_wp2_with (first | ((with_reducible refine gate_dst (N := 1) rfl ?_); refine box_event ?hg (N := 1) ?hd (cs := #[.string s, .string t, .slice A2 l2.length c2, .slice A3 l3.length c3]) (t := 40) ?hr ?_; (case hd => rfl); (case hg => rfl); (case hr => first | (go_simp; done) | (go_simp; rfl)); intro g hg w2 hbox hb; have n1_ := Aside0.mk hbox; have n2_ := Aside0.mk hb; clear HB hbox hg hb; have HX := n1_; have HB := n2_; clear n1_ n2_; have hx0 := blk_cell HX.out 0; have hx1 := blk_cell HX.out 1; have hx2 := blk_cell HX.out 2; have hx3 := blk_cell HX.out 3))
  refine (event_names.calls (l3.length + 1) A3 c3 l3 nm w2 (Kd.C_below HR3.out HB.out) HC3.out HNV.out).mono ?_
  rintro e w3 ⟨v3, rfl, ho, hb⟩
  obtain ⟨A4, c4, rfl, hc4, hC4⟩ := Kd.R_reads ho
  have HC4 := Aside0.mk hc4
  have HR4 := Aside0.mk hC4
  clear ho hc4 hC4 hx0 hx1 hx2 hx3
  have n1_ := Aside0.mk (below_step HB.out hb); have n2_ := Aside0.mk (blk_below HX.out hb); clear HB HX; have HB := n1_; have HX := n2_; clear n1_ n2_ hb
  have hx0 := blk_cell HX.out 0; have hx1 := blk_cell HX.out 1; have hx2 := blk_cell HX.out 2; have hx3 := blk_cell HX.out 3
  go_wp2_with fail
  refine (may_calls s _ hs).mono ?_
  rintro e w4a ⟨rfl, hb⟩
  have n1_ := Aside0.mk (below_step HB.out hb); have n2_ := Aside0.mk (blk_below HX.out hb); clear HB HX; have HB := n1_; have HX := n2_; clear n1_ n2_; have n1_ := Aside0.mk (Kd.C_below HR4.out hb); clear HR4; have HR4 := n1_; clear n1_ hb; clear hx0 hx1 hx2 hx3; have hx0 := blk_cell HX.out 0; have hx1 := blk_cell HX.out 1; have hx2 := blk_cell HX.out 2; have hx3 := blk_cell HX.out 3
  cases hm1 : mayL (bytesOf s) with
  | false =>
    go_wp2
    go_ret
    exact ⟨ret_i64 (HE.out.trans (by unfold mayE; rw [← HNM.out]; exact if_pos (.inl hm1))).symm, HB.out⟩
  | true =>
    go_wp2_with fail
    refine (may_calls t _ ht).mono ?_
    rintro e w5 ⟨rfl, hb⟩
    have n1_ := Aside0.mk (below_step HB.out hb); have n2_ := Aside0.mk (blk_below HX.out hb); clear HB HX; have HB := n1_; have HX := n2_; clear n1_ n2_; have n1_ := Aside0.mk (Kd.C_below HR4.out hb); clear HR4; have HR4 := n1_; clear n1_ hb; clear hx0 hx1 hx2 hx3; have hx0 := blk_cell HX.out 0; have hx1 := blk_cell HX.out 1; have hx2 := blk_cell HX.out 2; have hx3 := blk_cell HX.out 3
    cases hm2 : mayL (bytesOf t) with
    | false =>
      go_wp2
      go_ret
      exact ⟨ret_i64 (HE.out.trans (by unfold mayE; rw [← HNM.out]; exact if_pos (.inr hm2))).symm, HB.out⟩
    | true =>
      have H12 : Aside0 (E = if 6 < l2.length ∨ 4 < nm.length then 3 else if (l2.any fun s => !tagB s) = true ∨ (nm.any fun s => !mayL (bytesOf s)) = true then 5 else if riseB l2 = false ∨ riseB nm = false ∨ l3.any overB = true then 1 else 0) := ⟨by rw [HE.out, HLN.out]; unfold mayE; rw [← HNM.out, if_neg (by rw [hm1, hm2]; simp)]⟩
      clear HE hm1 hm2
      by_cases h6 : 6 < l2.length
      · have hd : decide ((6 : Int) < (l2.length : Int)) = true := decide_eq_true (by omega)
        have HG := Aside0.mk (H12.out.trans (if_pos (.inl h6)))
        go_wp2
        go_ret
        exact ⟨ret_i64 HG.out.symm, HB.out⟩
      have hd6 : decide ((6 : Int) < (l2.length : Int)) = false := decide_eq_false (by omega)
      by_cases h4 : 4 < nm.length
      · have hd : decide ((4 : Int) < (nm.length : Int)) = true := decide_eq_true (by omega)
        have HG := Aside0.mk (H12.out.trans (if_pos (.inr h4)))
        go_wp2
        go_ret
        exact ⟨ret_i64 HG.out.symm, HB.out⟩
      have hd4 : decide ((4 : Int) < (nm.length : Int)) = false := decide_eq_false (by omega)
      have H34 := Aside0.mk (H12.out.trans (if_neg (by omega)))
      clear H12
      go_wp2_with fail
      have HBB := Aside0.mk (below_drew (Below.refl w5.heap.size w5))
      cases h7 : (l2.any fun s => !tagB s) with
      | true =>
        have HT7 := Aside0.mk h7
        have HG := Aside0.mk (H34.out.trans (if_pos (.inl h7)))
        clear h7 hx0 hx1 hx2 hx3
        refine start_ (n := 10) (S := fun w' => True) (ds := []) #[false, false, false, false, false, false, false, false, false, false] (by kernel_rfl) rfl rfl trivial (fun hHeld => ?_); refine with_tabW D22.tab7 D22.bits7 (fun HT_ HW_ => ?_)
        refine inv_at [0, 1, 2, 3, 4, 5, 6, 7, 8, 9] (fun a0_ b a w' => ∃ (g32 : Nat) (m2_ : Value), a = putSel a0_ b [(0, 30, .pointer (some ⟨g, 2, none⟩)), (1, 31, .slice A2 l2.length c2), (2, 32, m2_), (3, 33, .bool true), (4, 34, .bool true), (5, 35, undef), (6, 36, undef), (7, 37, undef), (8, 38, (Value.bool true)), (9, 29, (Value.bool true))] ∧ (Below w5.heap.size w5 w') ∧ (b 2 = true → (g32 < w'.heap.size ∧ w'.cell? ⟨g32, 0, none⟩ = some (.func (.func 40) #[] #[]))) ∧ (b 2 = true → (m2_ : Value) = .func (.func 54) #[] #[.pointer (some ⟨g32, 0, none⟩)])) HT_.out HW_.out (by kernel_rfl) (by kernel_rfl) ?_ ?_ ?_
        · exact ⟨0, .bool false, by simp only [putSel, Bool.false_eq_true, if_false], HBB.out, fun h_ => absurd h_ (by decide), fun h_ => absurd h_ (by decide)⟩
        · clear HT_ HW_ hHeld
          clear HBB
          refine steps_cons ?_ ?_
          · intro b a w' hI_ hb_ hon hoff
            refine ⟨_, rfl, fun K hK => ?_⟩
            obtain ⟨g32, m2_, ha, Q_HBB, Q_HQ32, Q_X2_⟩ := hI_
            have e1 : a.tmps[1]? = some (.pointer (some ⟨g, 0, none⟩)) := by rw [ha]; exact (putSel_off rfl).trans rfl
            replace ha := Aside0.mk ha
            have HBB := Aside0.mk Q_HBB
            refine value_ (w1 := w') (v := .pointer (some ⟨g, 2, none⟩)) (by rfl) rfl ?_ ?_
            · go_simp
              (try simp only [i64_w])
              try (first | rfl | assumption)
            refine hK.out _ _ ⟨g32, m2_, (by rw [ha.out]; exact putSel_upk 0 hb_ rfl rfl rfl), Q_HBB, Q_HQ32, Q_X2_⟩
          refine steps_cons ?_ ?_
          · intro b a w' hI_ hb_ hon hoff
            refine ⟨_, rfl, fun K hK => ?_⟩
            obtain ⟨g32, m2_, ha, Q_HBB, Q_HQ32, Q_X2_⟩ := hI_
            have e30 : a.tmps[30]? = some (.pointer (some ⟨g, 2, none⟩)) := by rw [ha]; exact putSel_on (e := (0, 30, .pointer (some ⟨g, 2, none⟩))) 0 rfl rfl (hon 0 (by kernel_rfl)) rfl
            replace ha := Aside0.mk ha
            have HBB := Aside0.mk Q_HBB
            have hx2 := (HBB.out.cell (blk_lt HX.out)).trans (blk_cell HX.out 2)
            refine value_ (w1 := w') (v := .slice A2 l2.length c2) (by rfl) rfl ?_ ?_
            · go_simp
              (try simp only [i64_w])
              try (first | rfl | assumption)
            refine hK.out _ _ ⟨g32, m2_, (by rw [ha.out]; exact putSel_upk 1 hb_ rfl rfl rfl), Q_HBB, Q_HQ32, Q_X2_⟩
          refine steps_cons ?_ ?_
          · intro b a w' hI_ hb_ hon hoff
            refine ⟨_, rfl, fun K hK => ?_⟩
            obtain ⟨g32, m2_, ha, Q_HBB, Q_HQ32, Q_X2_⟩ := hI_
            replace ha := Aside0.mk ha
            have HBB := Aside0.mk Q_HBB
            refine goes_ Try.func39 (by kernel_rfl) rfl #[.func (.func 40) #[] #[]] (by rfl) rfl rfl (by first | (simp only [List.map_toArray, List.map_cons, List.map_nil, Act.eval, Array.getD_eq_getD_getElem?, Option.getD_some]; done) | (simp only [List.map_toArray, List.map_cons, List.map_nil, Act.eval, Array.getD_eq_getD_getElem?, Option.getD_some]; rfl)) ?_
            with_reducible refine (not_calls 40 _).mono ?_
            rintro e w3 ⟨g_, rfl, hq_, hl_, hb_2⟩
            refine ⟨_, rfl, ?_⟩
            refine hK.out _ _ ⟨g_, (.func (.func 54) #[] #[.pointer (some ⟨g_, 0, none⟩)]), (by rw [ha.out]; exact putSel_upk 2 hb_ rfl rfl rfl), below_step HBB.out hb_2, fun _ => ⟨hl_, hq_⟩, fun _ => rfl⟩
          refine steps_cons ?_ ?_
          · intro b a w' hI_ hb_ hon hoff
            refine ⟨_, rfl, fun K hK => ?_⟩
            obtain ⟨g32, m2_, ha, Q_HBB, Q_HQ32, Q_X2_⟩ := hI_
            have e31 : a.tmps[31]? = some (.slice A2 l2.length c2) := by rw [ha]; exact putSel_on (e := (1, 31, .slice A2 l2.length c2)) 1 rfl rfl (hon 1 (by kernel_rfl)) rfl
            have e32 : a.tmps[32]? = some (m2_) := by rw [ha]; exact putSel_on (e := (2, 32, m2_)) 2 rfl rfl (hon 2 (by kernel_rfl)) rfl
            rw [Q_X2_ (hon 2 (by kernel_rfl))] at e32
            replace ha := Aside0.mk ha
            have HBB := Aside0.mk Q_HBB
            have HQ32 := Aside0.mk (Q_HQ32 (hon 2 (by kernel_rfl)))
            refine goes_ Try.func38 (by kernel_rfl) rfl #[.slice A2 l2.length c2, .func (.func 54) #[] #[.pointer (some ⟨g32, 0, none⟩)]] (by rfl) rfl rfl (by first | (simp only [List.map_toArray, List.map_cons, List.map_nil, Act.eval, Array.getD_eq_getD_getElem?, Option.getD_some, e31, e32]; done) | (simp only [List.map_toArray, List.map_cons, List.map_nil, Act.eval, Array.getD_eq_getD_getElem?, Option.getD_some, e31, e32]; rfl)) ?_
            with_reducible refine (notTagB true l2 HT7.out A2 c2 g32 _ (Kd.C_below (Kd.C_below HR2.out HB.out) HBB.out) HZT.out HQ32.out.1 HQ32.out.2).mono ?_
            rintro e w3 ⟨rfl, hb_2⟩
            refine ⟨_, rfl, ?_⟩
            refine hK.out _ _ ⟨g32, m2_, (by rw [ha.out]; exact putSel_upk 3 hb_ rfl rfl rfl), below_step HBB.out hb_2, fun _ => (fnAt_below HQ32.out hb_2), Q_X2_⟩
          refine steps_cons ?_ ?_
          · intro b a w' hI_ hb_ hon hoff
            refine ⟨_, rfl, fun K hK => ?_⟩
            obtain ⟨g32, m2_, ha, Q_HBB, Q_HQ32, Q_X2_⟩ := hI_
            have e33 : a.tmps[33]? = some (.bool true) := by rw [ha]; exact putSel_on (e := (3, 33, .bool true)) 3 rfl rfl (hon 3 (by kernel_rfl)) rfl
            replace ha := Aside0.mk ha
            have HBB := Aside0.mk Q_HBB
            have HQ32 := Aside0.mk (Q_HQ32 (hon 2 (by kernel_rfl)))
            refine value_ (w1 := w') (v := .bool true) (by rfl) rfl ?_ ?_
            · go_simp
              (try simp only [i64_w])
              try (first | rfl | assumption)
            refine hK.out _ _ ⟨g32, m2_, (by rw [ha.out]; exact putSel_upk 4 hb_ rfl rfl rfl), Q_HBB, Q_HQ32, Q_X2_⟩
          refine steps_cons ?_ ?_
          · intro b a w' hI_ hb_ hon hoff
            refine ⟨_, rfl, fun K hK => ?_⟩
            obtain ⟨g32, m2_, ha, Q_HBB, Q_HQ32, Q_X2_⟩ := hI_
            have e34 : a.tmps[34]? = some (.bool true) := by rw [ha]; exact putSel_on (e := (4, 34, .bool true)) 4 rfl rfl (hon 4 (by kernel_rfl)) rfl
            replace ha := Aside0.mk ha
            have HBB := Aside0.mk Q_HBB
            have HQ32 := Aside0.mk (Q_HQ32 (hon 2 (by kernel_rfl)))
            refine off_ (wanted_off rfl rfl rfl (e34.trans (by first | rfl | (simp [*]; done)))) ?_
            refine hK.out _ _ ⟨g32, m2_, (by rw [ha.out]; exact putSel_upk 5 hb_ rfl rfl rfl), Q_HBB, Q_HQ32, Q_X2_⟩
          refine steps_cons ?_ ?_
          · intro b a w' hI_ hb_ hon hoff
            refine ⟨_, rfl, fun K hK => ?_⟩
            obtain ⟨g32, m2_, ha, Q_HBB, Q_HQ32, Q_X2_⟩ := hI_
            have e34 : a.tmps[34]? = some (.bool true) := by rw [ha]; exact putSel_on (e := (4, 34, .bool true)) 4 rfl rfl (hon 4 (by kernel_rfl)) rfl
            replace ha := Aside0.mk ha
            have HBB := Aside0.mk Q_HBB
            have HQ32 := Aside0.mk (Q_HQ32 (hon 2 (by kernel_rfl)))
            refine off_ (wanted_off rfl rfl rfl (e34.trans (by first | rfl | (simp [*]; done)))) ?_
            refine hK.out _ _ ⟨g32, m2_, (by rw [ha.out]; exact putSel_upk 6 hb_ rfl rfl rfl), Q_HBB, Q_HQ32, Q_X2_⟩
          refine steps_cons ?_ ?_
          · intro b a w' hI_ hb_ hon hoff
            refine ⟨_, rfl, fun K hK => ?_⟩
            obtain ⟨g32, m2_, ha, Q_HBB, Q_HQ32, Q_X2_⟩ := hI_
            have e34 : a.tmps[34]? = some (.bool true) := by rw [ha]; exact putSel_on (e := (4, 34, .bool true)) 4 rfl rfl (hon 4 (by kernel_rfl)) rfl
            replace ha := Aside0.mk ha
            have HBB := Aside0.mk Q_HBB
            have HQ32 := Aside0.mk (Q_HQ32 (hon 2 (by kernel_rfl)))
            refine off_ (wanted_off rfl rfl rfl (e34.trans (by first | rfl | (simp [*]; done)))) ?_
            refine hK.out _ _ ⟨g32, m2_, (by rw [ha.out]; exact putSel_upk 7 hb_ rfl rfl rfl), Q_HBB, Q_HQ32, Q_X2_⟩
          refine steps_cons ?_ ?_
          · intro b a w' hI_ hb_ hon hoff
            refine ⟨_, rfl, fun K hK => ?_⟩
            obtain ⟨g32, m2_, ha, Q_HBB, Q_HQ32, Q_X2_⟩ := hI_
            have e34 : a.tmps[34]? = some (.bool true) := by rw [ha]; exact putSel_on (e := (4, 34, .bool true)) 4 rfl rfl (hon 4 (by kernel_rfl)) rfl
            have e37 : a.tmps[37]? = some (undef) := by rw [ha]; exact putSel_on (e := (7, 37, undef)) 7 rfl rfl (hon 7 (by kernel_rfl)) rfl
            replace ha := Aside0.mk ha
            have HBB := Aside0.mk Q_HBB
            have HQ32 := Aside0.mk (Q_HQ32 (hon 2 (by kernel_rfl)))
            refine value_ (w1 := w') (v := (Value.bool true)) (by rfl) rfl ?_ ?_
            · go_simp
              (try simp only [i64_w])
              try (first | rfl | assumption)
            refine hK.out _ _ ⟨g32, m2_, (by rw [ha.out]; exact putSel_upk 8 hb_ rfl rfl rfl), Q_HBB, Q_HQ32, Q_X2_⟩
          refine steps_cons ?_ ?_
          · intro b a w' hI_ hb_ hon hoff
            refine ⟨_, rfl, fun K hK => ?_⟩
            obtain ⟨g32, m2_, ha, Q_HBB, Q_HQ32, Q_X2_⟩ := hI_
            have e38 : a.tmps[38]? = some ((Value.bool true)) := by rw [ha]; exact putSel_on (e := (8, 38, (Value.bool true))) 8 rfl rfl (hon 8 (by kernel_rfl)) rfl
            replace ha := Aside0.mk ha
            have HBB := Aside0.mk Q_HBB
            have HQ32 := Aside0.mk (Q_HQ32 (hon 2 (by kernel_rfl)))
            refine value_ (w1 := w') (v := (Value.bool true)) (by rfl) rfl ?_ ?_
            · go_simp
              (try simp only [i64_w])
              try (first | rfl | assumption)
            refine hK.out _ _ ⟨g32, m2_, (by rw [ha.out]; exact putSel_upk 9 hb_ rfl rfl rfl), Q_HBB, Q_HQ32, Q_X2_⟩
          exact steps_nil
        rintro b a wz hall ⟨g32, m2_, ha, Q_HBB, Q_HQ32, Q_X2_⟩
        clear HBB
        have hb0_ := hall 0 (by kernel_rfl)
        have hb1_ := hall 1 (by kernel_rfl)
        have hb2_ := hall 2 (by kernel_rfl)
        have hb3_ := hall 3 (by kernel_rfl)
        have hb4_ := hall 4 (by kernel_rfl)
        have hb5_ := hall 5 (by kernel_rfl)
        have hb6_ := hall 6 (by kernel_rfl)
        have hb7_ := hall 7 (by kernel_rfl)
        have hb8_ := hall 8 (by kernel_rfl)
        have hb9_ := hall 9 (by kernel_rfl)
        subst ha
        obtain rfl := Q_X2_ hb2_
        simp only [putSel, hb0_, hb1_, hb2_, hb3_, hb4_, hb5_, hb6_, hb7_, hb8_, hb9_, if_true, Act.put, List.setIfInBounds_toArray, List.set_cons_zero, List.set_cons_succ]
        have HBB := Aside0.mk Q_HBB
        clear Q_HBB
        have HQ32 := Aside0.mk (Q_HQ32 hb2_)
        clear Q_HQ32
        clear hall hb0_ hb1_ hb2_ hb3_ hb4_ hb5_ hb6_ hb7_ hb8_ hb9_
        go_wp2
        go_ret
        exact ⟨ret_i64 HG.out.symm, below_step HB.out HBB.out⟩
      | false =>
        have HT7 := Aside0.mk h7
        cases h8 : (nm.any fun s => !mayL (bytesOf s)) with
        | true =>
          have HF7 := Aside0.mk h8
          have HG := Aside0.mk (H34.out.trans (if_pos (.inr h8)))
          clear h7 h8 hx0 hx1 hx2 hx3
          refine start_ (n := 10) (S := fun w' => True) (ds := []) #[false, false, false, false, false, false, false, false, false, false] (by kernel_rfl) rfl rfl trivial (fun hHeld => ?_); refine with_tabW D22.tab7 D22.bits7 (fun HT_ HW_ => ?_)
          refine inv_at [0, 1, 2, 3, 4, 5, 6, 7, 8, 9] (fun a0_ b a w' => ∃ (g32 : Nat) (g36 : Nat) (m2_ : Value) (m6_ : Value), a = putSel a0_ b [(0, 30, .pointer (some ⟨g, 2, none⟩)), (1, 31, .slice A2 l2.length c2), (2, 32, m2_), (3, 33, .bool false), (4, 34, .bool false), (5, 35, .slice A4 nm.length c4), (6, 36, m6_), (7, 37, .bool true), (8, 38, .bool true), (9, 29, .bool true)] ∧ (Below w5.heap.size w5 w') ∧ (b 2 = true → (g32 < w'.heap.size ∧ w'.cell? ⟨g32, 0, none⟩ = some (.func (.func 40) #[] #[]))) ∧ (b 6 = true → (g36 < w'.heap.size ∧ w'.cell? ⟨g36, 0, none⟩ = some (.func (.func 37) #[] #[]))) ∧ (b 2 = true → (m2_ : Value) = .func (.func 54) #[] #[.pointer (some ⟨g32, 0, none⟩)]) ∧ (b 6 = true → (m6_ : Value) = .func (.func 54) #[] #[.pointer (some ⟨g36, 0, none⟩)])) HT_.out HW_.out (by kernel_rfl) (by kernel_rfl) ?_ ?_ ?_
          · exact ⟨0, 0, .bool false, .bool false, by simp only [putSel, Bool.false_eq_true, if_false], HBB.out, fun h_ => absurd h_ (by decide), fun h_ => absurd h_ (by decide), fun h_ => absurd h_ (by decide), fun h_ => absurd h_ (by decide)⟩
          · clear HT_ HW_ hHeld
            clear HBB
            refine steps_cons ?_ ?_
            · intro b a w' hI_ hb_ hon hoff
              refine ⟨_, rfl, fun K hK => ?_⟩
              obtain ⟨g32, g36, m2_, m6_, ha, Q_HBB, Q_HQ32, Q_HQ36, Q_X2_, Q_X6_⟩ := hI_
              have e1 : a.tmps[1]? = some (.pointer (some ⟨g, 0, none⟩)) := by rw [ha]; exact (putSel_off rfl).trans rfl
              replace ha := Aside0.mk ha
              have HBB := Aside0.mk Q_HBB
              refine value_ (w1 := w') (v := .pointer (some ⟨g, 2, none⟩)) (by rfl) rfl ?_ ?_
              · go_simp
                (try simp only [i64_w])
                try (first | rfl | assumption)
              refine hK.out _ _ ⟨g32, g36, m2_, m6_, (by rw [ha.out]; exact putSel_upk 0 hb_ rfl rfl rfl), Q_HBB, Q_HQ32, fun h0_ => absurd ((hoff 6 (by kernel_rfl)).symm.trans h0_) (by decide), Q_X2_, fun h0_ => absurd ((hoff 6 (by kernel_rfl)).symm.trans h0_) (by decide)⟩
            refine steps_cons ?_ ?_
            · intro b a w' hI_ hb_ hon hoff
              refine ⟨_, rfl, fun K hK => ?_⟩
              obtain ⟨g32, g36, m2_, m6_, ha, Q_HBB, Q_HQ32, Q_HQ36, Q_X2_, Q_X6_⟩ := hI_
              have e30 : a.tmps[30]? = some (.pointer (some ⟨g, 2, none⟩)) := by rw [ha]; exact putSel_on (e := (0, 30, .pointer (some ⟨g, 2, none⟩))) 0 rfl rfl (hon 0 (by kernel_rfl)) rfl
              replace ha := Aside0.mk ha
              have HBB := Aside0.mk Q_HBB
              have hx2 := (HBB.out.cell (blk_lt HX.out)).trans (blk_cell HX.out 2)
              refine value_ (w1 := w') (v := .slice A2 l2.length c2) (by rfl) rfl ?_ ?_
              · go_simp
                (try simp only [i64_w])
                try (first | rfl | assumption)
              refine hK.out _ _ ⟨g32, g36, m2_, m6_, (by rw [ha.out]; exact putSel_upk 1 hb_ rfl rfl rfl), Q_HBB, Q_HQ32, fun h0_ => absurd ((hoff 6 (by kernel_rfl)).symm.trans h0_) (by decide), Q_X2_, fun h0_ => absurd ((hoff 6 (by kernel_rfl)).symm.trans h0_) (by decide)⟩
            refine steps_cons ?_ ?_
            · intro b a w' hI_ hb_ hon hoff
              refine ⟨_, rfl, fun K hK => ?_⟩
              obtain ⟨g32, g36, m2_, m6_, ha, Q_HBB, Q_HQ32, Q_HQ36, Q_X2_, Q_X6_⟩ := hI_
              replace ha := Aside0.mk ha
              have HBB := Aside0.mk Q_HBB
              refine goes_ Try.func39 (by kernel_rfl) rfl #[.func (.func 40) #[] #[]] (by rfl) rfl rfl (by first | (simp only [List.map_toArray, List.map_cons, List.map_nil, Act.eval, Array.getD_eq_getD_getElem?, Option.getD_some]; done) | (simp only [List.map_toArray, List.map_cons, List.map_nil, Act.eval, Array.getD_eq_getD_getElem?, Option.getD_some]; rfl)) ?_
              with_reducible refine (not_calls 40 _).mono ?_
              rintro e w3 ⟨g_, rfl, hq_, hl_, hb_2⟩
              refine ⟨_, rfl, ?_⟩
              refine hK.out _ _ ⟨g_, g36, (.func (.func 54) #[] #[.pointer (some ⟨g_, 0, none⟩)]), m6_, (by rw [ha.out]; exact putSel_upk 2 hb_ rfl rfl rfl), below_step HBB.out hb_2, fun _ => ⟨hl_, hq_⟩, fun h0_ => absurd ((hoff 6 (by kernel_rfl)).symm.trans h0_) (by decide), fun _ => rfl, fun h0_ => absurd ((hoff 6 (by kernel_rfl)).symm.trans h0_) (by decide)⟩
            refine steps_cons ?_ ?_
            · intro b a w' hI_ hb_ hon hoff
              refine ⟨_, rfl, fun K hK => ?_⟩
              obtain ⟨g32, g36, m2_, m6_, ha, Q_HBB, Q_HQ32, Q_HQ36, Q_X2_, Q_X6_⟩ := hI_
              have e31 : a.tmps[31]? = some (.slice A2 l2.length c2) := by rw [ha]; exact putSel_on (e := (1, 31, .slice A2 l2.length c2)) 1 rfl rfl (hon 1 (by kernel_rfl)) rfl
              have e32 : a.tmps[32]? = some (m2_) := by rw [ha]; exact putSel_on (e := (2, 32, m2_)) 2 rfl rfl (hon 2 (by kernel_rfl)) rfl
              rw [Q_X2_ (hon 2 (by kernel_rfl))] at e32
              replace ha := Aside0.mk ha
              have HBB := Aside0.mk Q_HBB
              have HQ32 := Aside0.mk (Q_HQ32 (hon 2 (by kernel_rfl)))
              refine goes_ Try.func38 (by kernel_rfl) rfl #[.slice A2 l2.length c2, .func (.func 54) #[] #[.pointer (some ⟨g32, 0, none⟩)]] (by rfl) rfl rfl (by first | (simp only [List.map_toArray, List.map_cons, List.map_nil, Act.eval, Array.getD_eq_getD_getElem?, Option.getD_some, e31, e32]; done) | (simp only [List.map_toArray, List.map_cons, List.map_nil, Act.eval, Array.getD_eq_getD_getElem?, Option.getD_some, e31, e32]; rfl)) ?_
              with_reducible refine (notTagB false l2 HT7.out A2 c2 g32 _ (Kd.C_below (Kd.C_below HR2.out HB.out) HBB.out) HZT.out HQ32.out.1 HQ32.out.2).mono ?_
              rintro e w3 ⟨rfl, hb_2⟩
              refine ⟨_, rfl, ?_⟩
              refine hK.out _ _ ⟨g32, g36, m2_, m6_, (by rw [ha.out]; exact putSel_upk 3 hb_ rfl rfl rfl), below_step HBB.out hb_2, fun _ => (fnAt_below HQ32.out hb_2), fun h0_ => absurd ((hoff 6 (by kernel_rfl)).symm.trans h0_) (by decide), Q_X2_, fun h0_ => absurd ((hoff 6 (by kernel_rfl)).symm.trans h0_) (by decide)⟩
            refine steps_cons ?_ ?_
            · intro b a w' hI_ hb_ hon hoff
              refine ⟨_, rfl, fun K hK => ?_⟩
              obtain ⟨g32, g36, m2_, m6_, ha, Q_HBB, Q_HQ32, Q_HQ36, Q_X2_, Q_X6_⟩ := hI_
              have e33 : a.tmps[33]? = some (.bool false) := by rw [ha]; exact putSel_on (e := (3, 33, .bool false)) 3 rfl rfl (hon 3 (by kernel_rfl)) rfl
              replace ha := Aside0.mk ha
              have HBB := Aside0.mk Q_HBB
              have HQ32 := Aside0.mk (Q_HQ32 (hon 2 (by kernel_rfl)))
              refine value_ (w1 := w') (v := .bool false) (by rfl) rfl ?_ ?_
              · go_simp
                (try simp only [i64_w])
                try (first | rfl | assumption)
              refine hK.out _ _ ⟨g32, g36, m2_, m6_, (by rw [ha.out]; exact putSel_upk 4 hb_ rfl rfl rfl), Q_HBB, Q_HQ32, fun h0_ => absurd ((hoff 6 (by kernel_rfl)).symm.trans h0_) (by decide), Q_X2_, fun h0_ => absurd ((hoff 6 (by kernel_rfl)).symm.trans h0_) (by decide)⟩
            refine steps_cons ?_ ?_
            · intro b a w' hI_ hb_ hon hoff
              refine ⟨_, rfl, fun K hK => ?_⟩
              obtain ⟨g32, g36, m2_, m6_, ha, Q_HBB, Q_HQ32, Q_HQ36, Q_X2_, Q_X6_⟩ := hI_
              have e3 : a.tmps[3]? = some (.slice A4 nm.length c4) := by rw [ha]; exact (putSel_off rfl).trans rfl
              have e34 : a.tmps[34]? = some (.bool false) := by rw [ha]; exact putSel_on (e := (4, 34, .bool false)) 4 rfl rfl (hon 4 (by kernel_rfl)) rfl
              replace ha := Aside0.mk ha
              have HBB := Aside0.mk Q_HBB
              have HQ32 := Aside0.mk (Q_HQ32 (hon 2 (by kernel_rfl)))
              refine value_ (w1 := w') (v := .slice A4 nm.length c4) (wanted_on rfl rfl rfl (e34.trans (by first | rfl | (simp [*]; done)))) rfl ?_ ?_
              · go_simp
                (try simp only [i64_w])
                try (first | rfl | assumption)
              refine hK.out _ _ ⟨g32, g36, m2_, m6_, (by rw [ha.out]; exact putSel_upk 5 hb_ rfl rfl rfl), Q_HBB, Q_HQ32, Q_HQ36, Q_X2_, Q_X6_⟩
            refine steps_cons ?_ ?_
            · intro b a w' hI_ hb_ hon hoff
              refine ⟨_, rfl, fun K hK => ?_⟩
              obtain ⟨g32, g36, m2_, m6_, ha, Q_HBB, Q_HQ32, Q_HQ36, Q_X2_, Q_X6_⟩ := hI_
              have e34 : a.tmps[34]? = some (.bool false) := by rw [ha]; exact putSel_on (e := (4, 34, .bool false)) 4 rfl rfl (hon 4 (by kernel_rfl)) rfl
              replace ha := Aside0.mk ha
              have HBB := Aside0.mk Q_HBB
              have HQ32 := Aside0.mk (Q_HQ32 (hon 2 (by kernel_rfl)))
              refine goes_ Try.func39 (by kernel_rfl) rfl #[.func (.func 37) #[] #[]] (wanted_on rfl rfl rfl (e34.trans (by first | rfl | (simp [*]; done)))) rfl rfl (by first | (simp only [List.map_toArray, List.map_cons, List.map_nil, Act.eval, Array.getD_eq_getD_getElem?, Option.getD_some, e34]; done) | (simp only [List.map_toArray, List.map_cons, List.map_nil, Act.eval, Array.getD_eq_getD_getElem?, Option.getD_some, e34]; rfl)) ?_
              with_reducible refine (not_calls 37 _).mono ?_
              rintro e w3 ⟨g_, rfl, hq_, hl_, hb_2⟩
              refine ⟨_, rfl, ?_⟩
              refine hK.out _ _ ⟨g32, g_, m2_, (.func (.func 54) #[] #[.pointer (some ⟨g_, 0, none⟩)]), (by rw [ha.out]; exact putSel_upk 6 hb_ rfl rfl rfl), below_step HBB.out hb_2, fun _ => (fnAt_below HQ32.out hb_2), fun _ => ⟨hl_, hq_⟩, Q_X2_, fun _ => rfl⟩
            refine steps_cons ?_ ?_
            · intro b a w' hI_ hb_ hon hoff
              refine ⟨_, rfl, fun K hK => ?_⟩
              obtain ⟨g32, g36, m2_, m6_, ha, Q_HBB, Q_HQ32, Q_HQ36, Q_X2_, Q_X6_⟩ := hI_
              have e35 : a.tmps[35]? = some (.slice A4 nm.length c4) := by rw [ha]; exact putSel_on (e := (5, 35, .slice A4 nm.length c4)) 5 rfl rfl (hon 5 (by kernel_rfl)) rfl
              have e36 : a.tmps[36]? = some (m6_) := by rw [ha]; exact putSel_on (e := (6, 36, m6_)) 6 rfl rfl (hon 6 (by kernel_rfl)) rfl
              rw [Q_X6_ (hon 6 (by kernel_rfl))] at e36
              have e34 : a.tmps[34]? = some (.bool false) := by rw [ha]; exact putSel_on (e := (4, 34, .bool false)) 4 rfl rfl (hon 4 (by kernel_rfl)) rfl
              replace ha := Aside0.mk ha
              have HBB := Aside0.mk Q_HBB
              have HQ32 := Aside0.mk (Q_HQ32 (hon 2 (by kernel_rfl)))
              have HQ36 := Aside0.mk (Q_HQ36 (hon 6 (by kernel_rfl)))
              refine goes_ Try.func38 (by kernel_rfl) rfl #[.slice A4 nm.length c4, .func (.func 54) #[] #[.pointer (some ⟨g36, 0, none⟩)]] (wanted_on rfl rfl rfl (e34.trans (by first | rfl | (simp [*]; done)))) rfl rfl (by first | (simp only [List.map_toArray, List.map_cons, List.map_nil, Act.eval, Array.getD_eq_getD_getElem?, Option.getD_some, e35, e36, e34]; done) | (simp only [List.map_toArray, List.map_cons, List.map_nil, Act.eval, Array.getD_eq_getD_getElem?, Option.getD_some, e35, e36, e34]; rfl)) ?_
              with_reducible refine (notNameB true nm HF7.out A4 c4 g36 _ (Kd.C_below HR4.out HBB.out) HZF.out HQ36.out.1 HQ36.out.2).mono ?_
              rintro e w3 ⟨rfl, hb_2⟩
              refine ⟨_, rfl, ?_⟩
              refine hK.out _ _ ⟨g32, g36, m2_, m6_, (by rw [ha.out]; exact putSel_upk 7 hb_ rfl rfl rfl), below_step HBB.out hb_2, fun _ => (fnAt_below HQ32.out hb_2), fun _ => (fnAt_below HQ36.out hb_2), Q_X2_, Q_X6_⟩
            refine steps_cons ?_ ?_
            · intro b a w' hI_ hb_ hon hoff
              refine ⟨_, rfl, fun K hK => ?_⟩
              obtain ⟨g32, g36, m2_, m6_, ha, Q_HBB, Q_HQ32, Q_HQ36, Q_X2_, Q_X6_⟩ := hI_
              have e34 : a.tmps[34]? = some (.bool false) := by rw [ha]; exact putSel_on (e := (4, 34, .bool false)) 4 rfl rfl (hon 4 (by kernel_rfl)) rfl
              have e37 : a.tmps[37]? = some (.bool true) := by rw [ha]; exact putSel_on (e := (7, 37, .bool true)) 7 rfl rfl (hon 7 (by kernel_rfl)) rfl
              replace ha := Aside0.mk ha
              have HBB := Aside0.mk Q_HBB
              have HQ32 := Aside0.mk (Q_HQ32 (hon 2 (by kernel_rfl)))
              have HQ36 := Aside0.mk (Q_HQ36 (hon 6 (by kernel_rfl)))
              refine value_ (w1 := w') (v := .bool true) (by rfl) rfl ?_ ?_
              · go_simp
                (try simp only [i64_w])
                try (first | rfl | assumption)
              refine hK.out _ _ ⟨g32, g36, m2_, m6_, (by rw [ha.out]; exact putSel_upk 8 hb_ rfl rfl rfl), Q_HBB, Q_HQ32, Q_HQ36, Q_X2_, Q_X6_⟩
            refine steps_cons ?_ ?_
            · intro b a w' hI_ hb_ hon hoff
              refine ⟨_, rfl, fun K hK => ?_⟩
              obtain ⟨g32, g36, m2_, m6_, ha, Q_HBB, Q_HQ32, Q_HQ36, Q_X2_, Q_X6_⟩ := hI_
              have e38 : a.tmps[38]? = some (.bool true) := by rw [ha]; exact putSel_on (e := (8, 38, .bool true)) 8 rfl rfl (hon 8 (by kernel_rfl)) rfl
              replace ha := Aside0.mk ha
              have HBB := Aside0.mk Q_HBB
              have HQ32 := Aside0.mk (Q_HQ32 (hon 2 (by kernel_rfl)))
              have HQ36 := Aside0.mk (Q_HQ36 (hon 6 (by kernel_rfl)))
              refine value_ (w1 := w') (v := .bool true) (by rfl) rfl ?_ ?_
              · go_simp
                (try simp only [i64_w])
                try (first | rfl | assumption)
              refine hK.out _ _ ⟨g32, g36, m2_, m6_, (by rw [ha.out]; exact putSel_upk 9 hb_ rfl rfl rfl), Q_HBB, Q_HQ32, Q_HQ36, Q_X2_, Q_X6_⟩
            exact steps_nil
          rintro b a wz hall ⟨g32, g36, m2_, m6_, ha, Q_HBB, Q_HQ32, Q_HQ36, Q_X2_, Q_X6_⟩
          clear HBB
          have hb0_ := hall 0 (by kernel_rfl)
          have hb1_ := hall 1 (by kernel_rfl)
          have hb2_ := hall 2 (by kernel_rfl)
          have hb3_ := hall 3 (by kernel_rfl)
          have hb4_ := hall 4 (by kernel_rfl)
          have hb5_ := hall 5 (by kernel_rfl)
          have hb6_ := hall 6 (by kernel_rfl)
          have hb7_ := hall 7 (by kernel_rfl)
          have hb8_ := hall 8 (by kernel_rfl)
          have hb9_ := hall 9 (by kernel_rfl)
          subst ha
          obtain rfl := Q_X2_ hb2_
          obtain rfl := Q_X6_ hb6_
          simp only [putSel, hb0_, hb1_, hb2_, hb3_, hb4_, hb5_, hb6_, hb7_, hb8_, hb9_, if_true, Act.put, List.setIfInBounds_toArray, List.set_cons_zero, List.set_cons_succ]
          have HBB := Aside0.mk Q_HBB
          clear Q_HBB
          have HQ32 := Aside0.mk (Q_HQ32 hb2_)
          clear Q_HQ32
          have HQ36 := Aside0.mk (Q_HQ36 hb6_)
          clear Q_HQ36
          clear hall hb0_ hb1_ hb2_ hb3_ hb4_ hb5_ hb6_ hb7_ hb8_ hb9_
          go_wp2
          go_ret
          exact ⟨ret_i64 HG.out.symm, below_step HB.out HBB.out⟩
        | false =>
          have HF7 := Aside0.mk h8
          have H56 := Aside0.mk (H34.out.trans (if_neg (by rw [h7, h8]; simp)))
          clear H34 h7 h8
          refine start_ (n := 10) (S := fun w' => True) (ds := []) #[false, false, false, false, false, false, false, false, false, false] (by kernel_rfl) rfl rfl trivial (fun hHeld => ?_); refine with_tabW D22.tab7 D22.bits7 (fun HT_ HW_ => ?_)
          refine inv_at [0, 1, 2, 3, 4, 5, 6, 7, 8, 9] (fun a0_ b a w' => ∃ (g32 : Nat) (g36 : Nat) (m2_ : Value) (m6_ : Value), a = putSel a0_ b [(0, 30, .pointer (some ⟨g, 2, none⟩)), (1, 31, .slice A2 l2.length c2), (2, 32, m2_), (3, 33, .bool false), (4, 34, .bool false), (5, 35, .slice A4 nm.length c4), (6, 36, m6_), (7, 37, .bool false), (8, 38, .bool false), (9, 29, .bool false)] ∧ (Below w5.heap.size w5 w') ∧ (b 2 = true → (g32 < w'.heap.size ∧ w'.cell? ⟨g32, 0, none⟩ = some (.func (.func 40) #[] #[]))) ∧ (b 6 = true → (g36 < w'.heap.size ∧ w'.cell? ⟨g36, 0, none⟩ = some (.func (.func 37) #[] #[]))) ∧ (b 2 = true → (m2_ : Value) = .func (.func 54) #[] #[.pointer (some ⟨g32, 0, none⟩)]) ∧ (b 6 = true → (m6_ : Value) = .func (.func 54) #[] #[.pointer (some ⟨g36, 0, none⟩)])) HT_.out HW_.out (by kernel_rfl) (by kernel_rfl) ?_ ?_ ?_
          · exact ⟨0, 0, .bool false, .bool false, by simp only [putSel, Bool.false_eq_true, if_false], HBB.out, fun h_ => absurd h_ (by decide), fun h_ => absurd h_ (by decide), fun h_ => absurd h_ (by decide), fun h_ => absurd h_ (by decide)⟩
          · clear HT_ HW_ hHeld
            clear HBB
            refine steps_cons ?_ ?_
            · intro b a w' hI_ hb_ hon hoff
              refine ⟨_, rfl, fun K hK => ?_⟩
              obtain ⟨g32, g36, m2_, m6_, ha, Q_HBB, Q_HQ32, Q_HQ36, Q_X2_, Q_X6_⟩ := hI_
              have e1 : a.tmps[1]? = some (.pointer (some ⟨g, 0, none⟩)) := by rw [ha]; exact (putSel_off rfl).trans rfl
              replace ha := Aside0.mk ha
              have HBB := Aside0.mk Q_HBB
              refine value_ (w1 := w') (v := .pointer (some ⟨g, 2, none⟩)) (by rfl) rfl ?_ ?_
              · go_simp
                (try simp only [i64_w])
                try (first | rfl | assumption)
              refine hK.out _ _ ⟨g32, g36, m2_, m6_, (by rw [ha.out]; exact putSel_upk 0 hb_ rfl rfl rfl), Q_HBB, Q_HQ32, fun h0_ => absurd ((hoff 6 (by kernel_rfl)).symm.trans h0_) (by decide), Q_X2_, fun h0_ => absurd ((hoff 6 (by kernel_rfl)).symm.trans h0_) (by decide)⟩
            refine steps_cons ?_ ?_
            · intro b a w' hI_ hb_ hon hoff
              refine ⟨_, rfl, fun K hK => ?_⟩
              obtain ⟨g32, g36, m2_, m6_, ha, Q_HBB, Q_HQ32, Q_HQ36, Q_X2_, Q_X6_⟩ := hI_
              have e30 : a.tmps[30]? = some (.pointer (some ⟨g, 2, none⟩)) := by rw [ha]; exact putSel_on (e := (0, 30, .pointer (some ⟨g, 2, none⟩))) 0 rfl rfl (hon 0 (by kernel_rfl)) rfl
              replace ha := Aside0.mk ha
              have HBB := Aside0.mk Q_HBB
              have hx2 := (HBB.out.cell (blk_lt HX.out)).trans (blk_cell HX.out 2)
              refine value_ (w1 := w') (v := .slice A2 l2.length c2) (by rfl) rfl ?_ ?_
              · go_simp
                (try simp only [i64_w])
                try (first | rfl | assumption)
              refine hK.out _ _ ⟨g32, g36, m2_, m6_, (by rw [ha.out]; exact putSel_upk 1 hb_ rfl rfl rfl), Q_HBB, Q_HQ32, fun h0_ => absurd ((hoff 6 (by kernel_rfl)).symm.trans h0_) (by decide), Q_X2_, fun h0_ => absurd ((hoff 6 (by kernel_rfl)).symm.trans h0_) (by decide)⟩
            refine steps_cons ?_ ?_
            · intro b a w' hI_ hb_ hon hoff
              refine ⟨_, rfl, fun K hK => ?_⟩
              obtain ⟨g32, g36, m2_, m6_, ha, Q_HBB, Q_HQ32, Q_HQ36, Q_X2_, Q_X6_⟩ := hI_
              replace ha := Aside0.mk ha
              have HBB := Aside0.mk Q_HBB
              refine goes_ Try.func39 (by kernel_rfl) rfl #[.func (.func 40) #[] #[]] (by rfl) rfl rfl (by first | (simp only [List.map_toArray, List.map_cons, List.map_nil, Act.eval, Array.getD_eq_getD_getElem?, Option.getD_some]; done) | (simp only [List.map_toArray, List.map_cons, List.map_nil, Act.eval, Array.getD_eq_getD_getElem?, Option.getD_some]; rfl)) ?_
              with_reducible refine (not_calls 40 _).mono ?_
              rintro e w3 ⟨g_, rfl, hq_, hl_, hb_2⟩
              refine ⟨_, rfl, ?_⟩
              refine hK.out _ _ ⟨g_, g36, (.func (.func 54) #[] #[.pointer (some ⟨g_, 0, none⟩)]), m6_, (by rw [ha.out]; exact putSel_upk 2 hb_ rfl rfl rfl), below_step HBB.out hb_2, fun _ => ⟨hl_, hq_⟩, fun h0_ => absurd ((hoff 6 (by kernel_rfl)).symm.trans h0_) (by decide), fun _ => rfl, fun h0_ => absurd ((hoff 6 (by kernel_rfl)).symm.trans h0_) (by decide)⟩
            refine steps_cons ?_ ?_
            · intro b a w' hI_ hb_ hon hoff
              refine ⟨_, rfl, fun K hK => ?_⟩
              obtain ⟨g32, g36, m2_, m6_, ha, Q_HBB, Q_HQ32, Q_HQ36, Q_X2_, Q_X6_⟩ := hI_
              have e31 : a.tmps[31]? = some (.slice A2 l2.length c2) := by rw [ha]; exact putSel_on (e := (1, 31, .slice A2 l2.length c2)) 1 rfl rfl (hon 1 (by kernel_rfl)) rfl
              have e32 : a.tmps[32]? = some (m2_) := by rw [ha]; exact putSel_on (e := (2, 32, m2_)) 2 rfl rfl (hon 2 (by kernel_rfl)) rfl
              rw [Q_X2_ (hon 2 (by kernel_rfl))] at e32
              replace ha := Aside0.mk ha
              have HBB := Aside0.mk Q_HBB
              have HQ32 := Aside0.mk (Q_HQ32 (hon 2 (by kernel_rfl)))
              refine goes_ Try.func38 (by kernel_rfl) rfl #[.slice A2 l2.length c2, .func (.func 54) #[] #[.pointer (some ⟨g32, 0, none⟩)]] (by rfl) rfl rfl (by first | (simp only [List.map_toArray, List.map_cons, List.map_nil, Act.eval, Array.getD_eq_getD_getElem?, Option.getD_some, e31, e32]; done) | (simp only [List.map_toArray, List.map_cons, List.map_nil, Act.eval, Array.getD_eq_getD_getElem?, Option.getD_some, e31, e32]; rfl)) ?_
              with_reducible refine (notTagB false l2 HT7.out A2 c2 g32 _ (Kd.C_below (Kd.C_below HR2.out HB.out) HBB.out) HZT.out HQ32.out.1 HQ32.out.2).mono ?_
              rintro e w3 ⟨rfl, hb_2⟩
              refine ⟨_, rfl, ?_⟩
              refine hK.out _ _ ⟨g32, g36, m2_, m6_, (by rw [ha.out]; exact putSel_upk 3 hb_ rfl rfl rfl), below_step HBB.out hb_2, fun _ => (fnAt_below HQ32.out hb_2), fun h0_ => absurd ((hoff 6 (by kernel_rfl)).symm.trans h0_) (by decide), Q_X2_, fun h0_ => absurd ((hoff 6 (by kernel_rfl)).symm.trans h0_) (by decide)⟩
            refine steps_cons ?_ ?_
            · intro b a w' hI_ hb_ hon hoff
              refine ⟨_, rfl, fun K hK => ?_⟩
              obtain ⟨g32, g36, m2_, m6_, ha, Q_HBB, Q_HQ32, Q_HQ36, Q_X2_, Q_X6_⟩ := hI_
              have e33 : a.tmps[33]? = some (.bool false) := by rw [ha]; exact putSel_on (e := (3, 33, .bool false)) 3 rfl rfl (hon 3 (by kernel_rfl)) rfl
              replace ha := Aside0.mk ha
              have HBB := Aside0.mk Q_HBB
              have HQ32 := Aside0.mk (Q_HQ32 (hon 2 (by kernel_rfl)))
              refine value_ (w1 := w') (v := .bool false) (by rfl) rfl ?_ ?_
              · go_simp
                (try simp only [i64_w])
                try (first | rfl | assumption)
              refine hK.out _ _ ⟨g32, g36, m2_, m6_, (by rw [ha.out]; exact putSel_upk 4 hb_ rfl rfl rfl), Q_HBB, Q_HQ32, fun h0_ => absurd ((hoff 6 (by kernel_rfl)).symm.trans h0_) (by decide), Q_X2_, fun h0_ => absurd ((hoff 6 (by kernel_rfl)).symm.trans h0_) (by decide)⟩
            refine steps_cons ?_ ?_
            · intro b a w' hI_ hb_ hon hoff
              refine ⟨_, rfl, fun K hK => ?_⟩
              obtain ⟨g32, g36, m2_, m6_, ha, Q_HBB, Q_HQ32, Q_HQ36, Q_X2_, Q_X6_⟩ := hI_
              have e3 : a.tmps[3]? = some (.slice A4 nm.length c4) := by rw [ha]; exact (putSel_off rfl).trans rfl
              have e34 : a.tmps[34]? = some (.bool false) := by rw [ha]; exact putSel_on (e := (4, 34, .bool false)) 4 rfl rfl (hon 4 (by kernel_rfl)) rfl
              replace ha := Aside0.mk ha
              have HBB := Aside0.mk Q_HBB
              have HQ32 := Aside0.mk (Q_HQ32 (hon 2 (by kernel_rfl)))
              refine value_ (w1 := w') (v := .slice A4 nm.length c4) (wanted_on rfl rfl rfl (e34.trans (by first | rfl | (simp [*]; done)))) rfl ?_ ?_
              · go_simp
                (try simp only [i64_w])
                try (first | rfl | assumption)
              refine hK.out _ _ ⟨g32, g36, m2_, m6_, (by rw [ha.out]; exact putSel_upk 5 hb_ rfl rfl rfl), Q_HBB, Q_HQ32, Q_HQ36, Q_X2_, Q_X6_⟩
            refine steps_cons ?_ ?_
            · intro b a w' hI_ hb_ hon hoff
              refine ⟨_, rfl, fun K hK => ?_⟩
              obtain ⟨g32, g36, m2_, m6_, ha, Q_HBB, Q_HQ32, Q_HQ36, Q_X2_, Q_X6_⟩ := hI_
              have e34 : a.tmps[34]? = some (.bool false) := by rw [ha]; exact putSel_on (e := (4, 34, .bool false)) 4 rfl rfl (hon 4 (by kernel_rfl)) rfl
              replace ha := Aside0.mk ha
              have HBB := Aside0.mk Q_HBB
              have HQ32 := Aside0.mk (Q_HQ32 (hon 2 (by kernel_rfl)))
              refine goes_ Try.func39 (by kernel_rfl) rfl #[.func (.func 37) #[] #[]] (wanted_on rfl rfl rfl (e34.trans (by first | rfl | (simp [*]; done)))) rfl rfl (by first | (simp only [List.map_toArray, List.map_cons, List.map_nil, Act.eval, Array.getD_eq_getD_getElem?, Option.getD_some, e34]; done) | (simp only [List.map_toArray, List.map_cons, List.map_nil, Act.eval, Array.getD_eq_getD_getElem?, Option.getD_some, e34]; rfl)) ?_
              with_reducible refine (not_calls 37 _).mono ?_
              rintro e w3 ⟨g_, rfl, hq_, hl_, hb_2⟩
              refine ⟨_, rfl, ?_⟩
              refine hK.out _ _ ⟨g32, g_, m2_, (.func (.func 54) #[] #[.pointer (some ⟨g_, 0, none⟩)]), (by rw [ha.out]; exact putSel_upk 6 hb_ rfl rfl rfl), below_step HBB.out hb_2, fun _ => (fnAt_below HQ32.out hb_2), fun _ => ⟨hl_, hq_⟩, Q_X2_, fun _ => rfl⟩
            refine steps_cons ?_ ?_
            · intro b a w' hI_ hb_ hon hoff
              refine ⟨_, rfl, fun K hK => ?_⟩
              obtain ⟨g32, g36, m2_, m6_, ha, Q_HBB, Q_HQ32, Q_HQ36, Q_X2_, Q_X6_⟩ := hI_
              have e35 : a.tmps[35]? = some (.slice A4 nm.length c4) := by rw [ha]; exact putSel_on (e := (5, 35, .slice A4 nm.length c4)) 5 rfl rfl (hon 5 (by kernel_rfl)) rfl
              have e36 : a.tmps[36]? = some (m6_) := by rw [ha]; exact putSel_on (e := (6, 36, m6_)) 6 rfl rfl (hon 6 (by kernel_rfl)) rfl
              rw [Q_X6_ (hon 6 (by kernel_rfl))] at e36
              have e34 : a.tmps[34]? = some (.bool false) := by rw [ha]; exact putSel_on (e := (4, 34, .bool false)) 4 rfl rfl (hon 4 (by kernel_rfl)) rfl
              replace ha := Aside0.mk ha
              have HBB := Aside0.mk Q_HBB
              have HQ32 := Aside0.mk (Q_HQ32 (hon 2 (by kernel_rfl)))
              have HQ36 := Aside0.mk (Q_HQ36 (hon 6 (by kernel_rfl)))
              refine goes_ Try.func38 (by kernel_rfl) rfl #[.slice A4 nm.length c4, .func (.func 54) #[] #[.pointer (some ⟨g36, 0, none⟩)]] (wanted_on rfl rfl rfl (e34.trans (by first | rfl | (simp [*]; done)))) rfl rfl (by first | (simp only [List.map_toArray, List.map_cons, List.map_nil, Act.eval, Array.getD_eq_getD_getElem?, Option.getD_some, e35, e36, e34]; done) | (simp only [List.map_toArray, List.map_cons, List.map_nil, Act.eval, Array.getD_eq_getD_getElem?, Option.getD_some, e35, e36, e34]; rfl)) ?_
              with_reducible refine (notNameB false nm HF7.out A4 c4 g36 _ (Kd.C_below HR4.out HBB.out) HZF.out HQ36.out.1 HQ36.out.2).mono ?_
              rintro e w3 ⟨rfl, hb_2⟩
              refine ⟨_, rfl, ?_⟩
              refine hK.out _ _ ⟨g32, g36, m2_, m6_, (by rw [ha.out]; exact putSel_upk 7 hb_ rfl rfl rfl), below_step HBB.out hb_2, fun _ => (fnAt_below HQ32.out hb_2), fun _ => (fnAt_below HQ36.out hb_2), Q_X2_, Q_X6_⟩
            refine steps_cons ?_ ?_
            · intro b a w' hI_ hb_ hon hoff
              refine ⟨_, rfl, fun K hK => ?_⟩
              obtain ⟨g32, g36, m2_, m6_, ha, Q_HBB, Q_HQ32, Q_HQ36, Q_X2_, Q_X6_⟩ := hI_
              have e34 : a.tmps[34]? = some (.bool false) := by rw [ha]; exact putSel_on (e := (4, 34, .bool false)) 4 rfl rfl (hon 4 (by kernel_rfl)) rfl
              have e37 : a.tmps[37]? = some (.bool false) := by rw [ha]; exact putSel_on (e := (7, 37, .bool false)) 7 rfl rfl (hon 7 (by kernel_rfl)) rfl
              replace ha := Aside0.mk ha
              have HBB := Aside0.mk Q_HBB
              have HQ32 := Aside0.mk (Q_HQ32 (hon 2 (by kernel_rfl)))
              have HQ36 := Aside0.mk (Q_HQ36 (hon 6 (by kernel_rfl)))
              refine value_ (w1 := w') (v := .bool false) (by rfl) rfl ?_ ?_
              · go_simp
                (try simp only [i64_w])
                try (first | rfl | assumption)
              refine hK.out _ _ ⟨g32, g36, m2_, m6_, (by rw [ha.out]; exact putSel_upk 8 hb_ rfl rfl rfl), Q_HBB, Q_HQ32, Q_HQ36, Q_X2_, Q_X6_⟩
            refine steps_cons ?_ ?_
            · intro b a w' hI_ hb_ hon hoff
              refine ⟨_, rfl, fun K hK => ?_⟩
              obtain ⟨g32, g36, m2_, m6_, ha, Q_HBB, Q_HQ32, Q_HQ36, Q_X2_, Q_X6_⟩ := hI_
              have e38 : a.tmps[38]? = some (.bool false) := by rw [ha]; exact putSel_on (e := (8, 38, .bool false)) 8 rfl rfl (hon 8 (by kernel_rfl)) rfl
              replace ha := Aside0.mk ha
              have HBB := Aside0.mk Q_HBB
              have HQ32 := Aside0.mk (Q_HQ32 (hon 2 (by kernel_rfl)))
              have HQ36 := Aside0.mk (Q_HQ36 (hon 6 (by kernel_rfl)))
              refine value_ (w1 := w') (v := .bool false) (by rfl) rfl ?_ ?_
              · go_simp
                (try simp only [i64_w])
                try (first | rfl | assumption)
              refine hK.out _ _ ⟨g32, g36, m2_, m6_, (by rw [ha.out]; exact putSel_upk 9 hb_ rfl rfl rfl), Q_HBB, Q_HQ32, Q_HQ36, Q_X2_, Q_X6_⟩
            exact steps_nil
          rintro b a wz hall ⟨g32, g36, m2_, m6_, ha, Q_HBB, Q_HQ32, Q_HQ36, Q_X2_, Q_X6_⟩
          clear HBB
          have hb0_ := hall 0 (by kernel_rfl)
          have hb1_ := hall 1 (by kernel_rfl)
          have hb2_ := hall 2 (by kernel_rfl)
          have hb3_ := hall 3 (by kernel_rfl)
          have hb4_ := hall 4 (by kernel_rfl)
          have hb5_ := hall 5 (by kernel_rfl)
          have hb6_ := hall 6 (by kernel_rfl)
          have hb7_ := hall 7 (by kernel_rfl)
          have hb8_ := hall 8 (by kernel_rfl)
          have hb9_ := hall 9 (by kernel_rfl)
          subst ha
          obtain rfl := Q_X2_ hb2_
          obtain rfl := Q_X6_ hb6_
          simp only [putSel, hb0_, hb1_, hb2_, hb3_, hb4_, hb5_, hb6_, hb7_, hb8_, hb9_, if_true, Act.put, List.setIfInBounds_toArray, List.set_cons_zero, List.set_cons_succ]
          have HBB := Aside0.mk Q_HBB
          clear Q_HBB
          have HQ32 := Aside0.mk (Q_HQ32 hb2_)
          clear Q_HQ32
          have HQ36 := Aside0.mk (Q_HQ36 hb6_)
          clear Q_HQ36
          clear hall hb0_ hb1_ hb2_ hb3_ hb4_ hb5_ hb6_ hb7_ hb8_ hb9_
          have hb := HBB.out; have n1_ := Aside0.mk (below_step HB.out hb); have n2_ := Aside0.mk (blk_below HX.out hb); clear HB HX; have HB := n1_; have HX := n2_; clear n1_ n2_; have n1_ := Aside0.mk (Kd.C_below HR4.out hb); clear HR4; have HR4 := n1_; clear n1_ hb; clear hx0 hx1 hx2 hx3; have hx0 := blk_cell HX.out 0; have hx1 := blk_cell HX.out 1; have hx2 := blk_cell HX.out 2; have hx3 := blk_cell HX.out 3; clear HBB
          clear HT7 HF7
          go_wp2_with fail
          refine (event_rise.calls (l2.length + 1) A2 c2 l2 (riseB l2) wz (Kd.C_below HR2.out HB.out) HC2.out (rise_val l2 hm2)).mono ?_
          rintro e w6 ⟨rfl, hd⟩
          have hb := hd.below
          clear hd
          have n1_ := Aside0.mk (below_step HB.out hb); have n2_ := Aside0.mk (blk_below HX.out hb); clear HB HX; have HB := n1_; have HX := n2_; clear n1_ n2_; have n1_ := Aside0.mk (Kd.C_below HR4.out hb); clear HR4; have HR4 := n1_; clear n1_ hb; clear hx0 hx1 hx2 hx3; have hx0 := blk_cell HX.out 0; have hx1 := blk_cell HX.out 1; have hx2 := blk_cell HX.out 2; have hx3 := blk_cell HX.out 3
          cases hq1 : riseB l2 with
          | false =>
            have HG := Aside0.mk (H56.out.trans (if_pos (.inl hq1)))
            clear hq1
            go_wp2
            go_ret
            exact ⟨ret_i64 HG.out.symm, HB.out⟩
          | true =>
          go_wp2_with fail
          refine (event_rise.calls (nm.length + 1) A4 c4 nm (riseB nm) w6 HR4.out HC4.out (rise_val nm (Kd.C_max HR4.out))).mono ?_
          rintro e w7 ⟨rfl, hd⟩
          have hb := hd.below
          clear hd
          have n1_ := Aside0.mk (below_step HB.out hb); have n2_ := Aside0.mk (blk_below HX.out hb); clear HB HX; have HB := n1_; have HX := n2_; clear n1_ n2_; have n1_ := Aside0.mk (Kd.C_below HR4.out hb); clear HR4; have HR4 := n1_; clear n1_ hb; clear hx0 hx1 hx2 hx3; have hx0 := blk_cell HX.out 0; have hx1 := blk_cell HX.out 1; have hx2 := blk_cell HX.out 2; have hx3 := blk_cell HX.out 3
          cases hq2 : riseB nm with
          | false =>
            have HG := Aside0.mk (H56.out.trans (if_pos (.inr (.inl hq2))))
            clear hq1 hq2
            go_wp2
            go_ret
            exact ⟨ret_i64 HG.out.symm, HB.out⟩
          | true =>
          go_wp2_with fail
          refine (overC l3 A3 c3 w7 (Kd.C_below HR3.out HB.out)).mono ?_
          rintro e w8 ⟨rfl, hb⟩
          have n1_ := Aside0.mk (below_step HB.out hb); have n2_ := Aside0.mk (blk_below HX.out hb); clear HB HX; have HB := n1_; have HX := n2_; clear n1_ n2_; have n1_ := Aside0.mk (Kd.C_below HR4.out hb); clear HR4; have HR4 := n1_; clear n1_ hb; clear hx0 hx1 hx2 hx3; have hx0 := blk_cell HX.out 0; have hx1 := blk_cell HX.out 1; have hx2 := blk_cell HX.out 2; have hx3 := blk_cell HX.out 3
          cases hq3 : l3.any overB with
          | true =>
            have HG := Aside0.mk (H56.out.trans (if_pos (.inr (.inr hq3))))
            clear hq1 hq2 hq3
            go_wp2
            go_ret
            exact ⟨ret_i64 HG.out.symm, HB.out⟩
          | false =>
            have HG := Aside0.mk (H56.out.trans (if_neg (by rw [hq1, hq2, hq3]; simp)))
            clear hq1 hq2 hq3
            go_wp2
            go_ret
            exact ⟨ret_i64 HG.out.symm, HB.out⟩
end Go.Proofs.Ytafeakcajhhkoaa.Nam
namespace Go.Proofs.Ytafeakcajhhkoaa.Prt
open Go.RowKit Go.Proofs.YtafeakcajhhkoaaW.PrintWords Go.Proofs.YtafeakcajhhkoaaW.PrintLast Go.Proofs.YtafeakcajhhkoaaW.PrintMore Go.Proofs.Ytafeakcajhhkoaa.Num Go.Proofs.Ytafeakcajhhkoaa.Nam
set_option linter.unusedVariables false
set_option linter.unusedSimpArgs false

/-- No text of these is longer than any can be. -/
def fitE (s t : ByteArray) (tags : List ByteArray) (fl : List S50) : Bool := decide (s.size ≤ 9223372036854775807) && decide (t.size ≤ 9223372036854775807) && (tags.all fun x => decide (x.size ≤ 9223372036854775807)) && (fl.all fun x => decide (x.f0.size ≤ 9223372036854775807)) && decide (fl.length < 8796093022208)
theorem fitE_iff {s t : ByteArray} {tags : List ByteArray} {fl : List S50} : fitE s t tags fl = true ↔ s.size ≤ 9223372036854775807 ∧ t.size ≤ 9223372036854775807 ∧ (∀ x ∈ tags, x.size ≤ 9223372036854775807) ∧ (∀ x ∈ fl, x.f0.size ≤ 9223372036854775807) ∧ fl.length < 8796093022208 := by
  unfold fitE
  simp only [Bool.and_eq_true, decide_eq_true_eq, List.all_eq_true, and_assoc]
def event_May.f (a0_0 : ByteArray) (a0_1 : ByteArray) (l0_2 : List ByteArray) (l0_3 : List (S50)) : Option (Int) := if fitE a0_0 a0_1 l0_2 l0_3 = true then some (mayE a0_0 a0_1 l0_2 l0_3) else none
theorem event_May.calls (a0_0 : ByteArray) (a0_1 : ByteArray) (A0_2 : Option Addr) (c0_2 : Nat) (l0_2 : List ByteArray) (A0_3 : Option Addr) (c0_3 : Nat) (l0_3 : List (S50)) (r : Int) (w : World) (hr0_2 : Kd.C Kd.string w A0_2 l0_2.length l0_2) (hc0_2 : l0_2.length ≤ c0_2) (hr0_3 : Kd.C k50 w A0_3 l0_3.length l0_3) (hc0_3 : l0_3.length ≤ c0_3) (h : event_May.f a0_0 a0_1 l0_2 l0_3 = some r) :
    Calls Try.prog 22 #[.agg #[.string a0_0, .string a0_1, .slice A0_2 l0_2.length c0_2, .slice A0_3 l0_3.length c0_3]] w fun e w' => e = .returned (.int .i64 r) ∧ Below w.heap.size w w' := by
  unfold event_May.f at h
  by_cases hf : fitE a0_0 a0_1 l0_2 l0_3 = true
  · rw [if_pos hf] at h
    obtain rfl := Option.some.inj h
    obtain ⟨h1, h2, h3, h4, h5⟩ := fitE_iff.1 hf
    exact eventMay_calls a0_0 a0_1 A0_2 A0_3 c0_2 c0_3 l0_2 l0_3 w hr0_2 hc0_2 hr0_3 hc0_3 h1 h2 h3 h4 h5
  · rw [if_neg hf] at h; cases h
end Go.Proofs.Ytafeakcajhhkoaa.Prt
namespace Go.Proofs.Ytafeakcajhhkoaa.Num
open Go.RowKit Go.Proofs.YtafeakcajhhkoaaW.PrintWords Go.Proofs.YtafeakcajhhkoaaW.PrintLast Go.Proofs.YtafeakcajhhkoaaW.PrintMore Go.Proofs.Ytafeakcajhhkoaa.Prt Go.Proofs.Ytafeakcajhhkoaa.Nam
set_option linter.unusedVariables false
set_option linter.unusedSimpArgs false

/-- So many texts taken. -/
def takeTs : Nat → List Int → Bool → List ByteArray × List Int × Bool
  | 0, l, b => ([], l, b)
  | n + 1, l, b => ((takeTs n l b).1 ++ [textOf (takeTs n l b).2.1], aftT (takeTs n l b).2.1, badT (takeTs n l b).2.1 (takeTs n l b).2.2)
/-- So many fields taken. -/
def takeFs : Nat → List Int → Bool → List S50 × List Int × Bool
  | 0, l, b => ([], l, b)
  | n + 1, l, b => ((takeFs n l b).1 ++ [⟨textOf (takeFs n l b).2.1, numOf (aftT (takeFs n l b).2.1)⟩], aft (aftT (takeFs n l b).2.1), badOf (aftT (takeFs n l b).2.1) (badT (takeFs n l b).2.1 (takeFs n l b).2.2))
/-- An event taken: the event, the error, what is left, whether the reader is bad. -/
def takeE (l : List Int) (b : Bool) : S40 × Int × List Int × Bool :=
  let n := numOf (aftT (aftT l)); let l3 := aft (aftT (aftT l)); let b3 := badOf (aftT (aftT l)) (badT (aftT l) (badT l b))
  if n < 0 ∨ 6 < n then (z40, 2, l3, b3) else
  let q := takeTs n.toNat l3 b3; let m := numOf q.2.1; let l5 := aft q.2.1; let b5 := badOf q.2.1 q.2.2
  if m < 0 ∨ 4 < m then (z40, 2, l5, b5) else
  let r := takeFs m.toNat l5 b5
  if r.2.2 = true ∨ mayE (textOf l) (textOf (aftT l)) q.1 r.1 ≠ 0 then (z40, 2, r.2) else (⟨textOf l, textOf (aftT l), q.1, r.1⟩, 0, r.2)
theorem takeTs_len (l : List Int) (b : Bool) : ∀ n, (takeTs n l b).1.length = n
  | 0 => rfl
  | n + 1 => by simp only [takeTs, List.length_append, List.length_singleton, takeTs_len l b n]
theorem takeFs_len (l : List Int) (b : Bool) : ∀ n, (takeFs n l b).1.length = n
  | 0 => rfl
  | n + 1 => by simp only [takeFs, List.length_append, List.length_singleton, takeFs_len l b n]
theorem aft_len (l : List Int) (hb : isBytes l) : (aft l).length ≤ l.length := by
  unfold aft
  cases hd : dec l with
  | none => simp
  | some q =>
    obtain ⟨x, r⟩ := q
    have := (dec_sound hb hd).1
    rw [this]; simp
theorem aftT_len (l : List Int) (hb : isBytes l) : (aftT l).length ≤ l.length := by
  unfold aftT
  cases hd : decT l with
  | none => simp
  | some q =>
    obtain ⟨x, r⟩ := q
    have := (decT_sound hb hd).1
    rw [this]; simp
theorem textOf_size (l : List Int) (hb : isBytes l) : (textOf l).size ≤ l.length := by
  unfold textOf
  cases hd : decT l with
  | none => exact Nat.zero_le _
  | some q =>
    obtain ⟨x, r⟩ := q
    have h1 := (decT_sound hb hd).1
    have h2 : (strOfNums x).size = x.length := strOfNums_size' x
    show (strOfNums x).size ≤ _
    rw [h2, h1]; unfold encT; simp; omega
theorem takeTs_left (l : List Int) (b : Bool) (hb : isBytes l) : ∀ n, isBytes (takeTs n l b).2.1 ∧ (takeTs n l b).2.1.length ≤ l.length ∧ ∀ x ∈ (takeTs n l b).1, x.size ≤ l.length
  | 0 => ⟨hb, Nat.le_refl _, fun x hx => by simp [takeTs] at hx⟩
  | n + 1 => by
    obtain ⟨h1, h2, h3⟩ := takeTs_left l b hb n
    refine ⟨aftT_bytes h1, Nat.le_trans (aftT_len _ h1) h2, fun x hx => ?_⟩
    simp only [takeTs] at hx
    rcases List.mem_append.1 hx with hx | hx
    · exact h3 x hx
    · rw [List.mem_singleton.1 hx]; exact Nat.le_trans (textOf_size _ h1) h2
theorem takeFs_left (l : List Int) (b : Bool) (hb : isBytes l) : ∀ n, isBytes (takeFs n l b).2.1 ∧ (takeFs n l b).2.1.length ≤ l.length ∧ ∀ x ∈ (takeFs n l b).1, x.f0.size ≤ l.length
  | 0 => ⟨hb, Nat.le_refl _, fun x hx => by simp [takeFs] at hx⟩
  | n + 1 => by
    obtain ⟨h1, h2, h3⟩ := takeFs_left l b hb n
    have g1 := aftT_bytes h1
    refine ⟨aft_bytes g1, Nat.le_trans (aft_len _ g1) (Nat.le_trans (aftT_len _ h1) h2), fun x hx => ?_⟩
    simp only [takeFs] at hx
    rcases List.mem_append.1 hx with hx | hx
    · exact h3 x hx
    · rw [List.mem_singleton.1 hx]; exact Nat.le_trans (textOf_size _ h1) h2
/-- What a call leaves that was handed a reader. -/
def Out (w w' : World) (P : Nat → Prop) (g : Nat) (l : List Int) (b : Bool) : Prop := Rd 72 P w' g l b ∧ Below g w w' ∧ KeepBut w w' g none
theorem Out.of_Tk {w w0 w' : World} {P : Nat → Prop} {g E Rb : Nat} {l : List Int} {bad : Bool} {s t : ByteArray} {v2 v3 : Value} {tags : List ByteArray} {fl : List S50} (h : Tk w0 w' P g E Rb l bad s t v2 tags v3 fl) (hB : Below w.heap.size w w0) (hg : g < w.heap.size) : Out w w' P g l bad :=
  ⟨h.rd, (hB.mono (Nat.le_of_lt hg)).trans h.below, (KeepBut.of_below hB g none).trans h.keep (.inl rfl)⟩
theorem Out.set {w w' : World} {P : Nat → Prop} {g : Nat} {l : List Int} {bad : Bool} (h : Out w w' P g l bad) (hg : g < w.heap.size) (hP : ∀ k, P k → k < w.heap.size) {Q : Nat} (hQ : w.heap.size ≤ Q) (i : Nat) (u : Value) : Out w (w'.setCell ⟨Q, i, none⟩ u) P g l bad :=
  ⟨h.1.kept ((KeepBut.refl w' Q none).set_ i _) (by omega) (fun hp => by have := hP Q hp; omega), h.2.1.setCell (p := ⟨Q, i, none⟩) (by show g ≤ Q; omega) _, keep_far h.2.2 hQ _⟩
/-- What an event is that couldn't be taken. -/
theorem takeE_n {l : List Int} {b : Bool} (h : numOf (aftT (aftT l)) < 0 ∨ 6 < numOf (aftT (aftT l))) : takeE l b = (z40, 2, aft (aftT (aftT l)), badOf (aftT (aftT l)) (badT (aftT l) (badT l b))) := by
  unfold takeE; simp only; rw [if_pos h]
theorem takeE_m {l : List Int} {b : Bool} {q : List ByteArray × List Int × Bool} (h : ¬ (numOf (aftT (aftT l)) < 0 ∨ 6 < numOf (aftT (aftT l)))) (hq : takeTs (numOf (aftT (aftT l))).toNat (aft (aftT (aftT l))) (badOf (aftT (aftT l)) (badT (aftT l) (badT l b))) = q)
    (h2 : numOf q.2.1 < 0 ∨ 4 < numOf q.2.1) : takeE l b = (z40, 2, aft q.2.1, badOf q.2.1 q.2.2) := by
  unfold takeE; simp only; rw [if_neg h, hq, if_pos h2]
theorem takeE_r {l : List Int} {b : Bool} {q : List ByteArray × List Int × Bool} {r : List S50 × List Int × Bool} (h : ¬ (numOf (aftT (aftT l)) < 0 ∨ 6 < numOf (aftT (aftT l)))) (hq : takeTs (numOf (aftT (aftT l))).toNat (aft (aftT (aftT l))) (badOf (aftT (aftT l)) (badT (aftT l) (badT l b))) = q)
    (h2 : ¬ (numOf q.2.1 < 0 ∨ 4 < numOf q.2.1)) (hr : takeFs (numOf q.2.1).toNat (aft q.2.1) (badOf q.2.1 q.2.2) = r) :
    takeE l b = if r.2.2 = true ∨ mayE (textOf l) (textOf (aftT l)) q.1 r.1 ≠ 0 then (z40, 2, r.2) else (⟨textOf l, textOf (aftT l), q.1, r.1⟩, 0, r.2) := by
  unfold takeE; simp only; rw [if_neg h, hq, if_neg h2, hr]
theorem R_set4 {α : Type} {d : Kd α} {e N t E : Nat} {w : World} {v : Value} {l : List α} {cells : Array Value} (h : d.R e w N (fun _ => True) v l) (hb : w.heap[E]? = some (.cells cells t (0, 0))) (ht : ∀ q, q ∈ e :: d.E → q ≠ t) (u0 u1 u2 u3 : Value) : d.R e ((((w.setCell ⟨E, 0, none⟩ u0).setCell ⟨E, 1, none⟩ u1).setCell ⟨E, 2, none⟩ u2).setCell ⟨E, 3, none⟩ u3) N (fun _ => True) v l :=
  R_set (R_set (R_set (R_set h hb ht 0 u0) (blk_set hb 0 u0) ht 1 u1) (blk_set (blk_set hb 0 u0) 1 u1) ht 2 u2) (blk_set (blk_set (blk_set hb 0 u0) 1 u1) 2 u2) ht 3 u3
theorem take_start (w w0 : World) (P : Nat → Prop) (g : Nat) (l : List Int) (bad : Bool) (h0 : w0 = (w.alloc (.cells #[.pointer (some ⟨g, 0, none⟩)] 51)).alloc (.cells #[.string ⟨#[]⟩, .string ⟨#[]⟩, .slice none 0 0, .slice none 0 0] 40)) (hI : Rd 72 P w g l bad) (hb : isBytes l) (hP : ∀ k, P k → k < w.heap.size) :
    w0.heap.size = w.heap.size + 1 + 1 ∧ w0.heap[w.heap.size + 1]? = some (.cells #[.string ⟨#[]⟩, .string ⟨#[]⟩, .slice none 0 0, .slice none 0 0] 40) ∧ Below w.heap.size w w0 ∧ Tk w0 (w0.alloc (.cells #[.string ⟨#[]⟩, .string ⟨#[]⟩, .slice none 0 0, .slice none 0 0] 40)) P g (w.heap.size + 1 + 1) w.heap.size l bad ⟨#[]⟩ ⟨#[]⟩ (.slice none 0 0) [] (.slice none 0 0) [] := by
  have hz : w0.heap.size = w.heap.size + 1 + 1 := by rw [h0]; simp only [World.size_alloc]
  have hB : Below w.heap.size w w0 := by rw [h0]; exact below_alloc (below_alloc (Below.refl _ _) _) _
  have hq : w0.heap[w.heap.size + 1]? = some (.cells #[.string ⟨#[]⟩, .string ⟨#[]⟩, .slice none 0 0, .slice none 0 0] 40) := by
    rw [h0]
    have := heap_alloc_new (w.alloc (.cells #[.pointer (some ⟨g, 0, none⟩)] 51)) (.cells #[.string ⟨#[]⟩, .string ⟨#[]⟩, .slice none 0 0, .slice none 0 0] 40)
    rwa [World.size_alloc] at this
  have hr : w0.heap[w.heap.size]? = some (.cells #[.pointer (some ⟨g, 0, none⟩)] 51) := by rw [h0]; exact blk_alloc (heap_alloc_new w _) _
  have hE : (w0.alloc (.cells #[.string ⟨#[]⟩, .string ⟨#[]⟩, .slice none 0 0, .slice none 0 0] 40)).heap[w.heap.size + 1 + 1]? = some (.cells #[.string ⟨#[]⟩, .string ⟨#[]⟩, .slice none 0 0, .slice none 0 0] 40) := by rw [← hz]; exact heap_alloc_new w0 _
  have hlt := hI.lt
  have hb1 : Below w.heap.size w (w0.alloc (.cells #[.string ⟨#[]⟩, .string ⟨#[]⟩, .slice none 0 0, .slice none 0 0] 40)) := below_alloc hB _
  refine ⟨hz, hq, hB, hI.below hb1, hE, blk_alloc hr _, Kd.R_nil _ _ _ _ _, Kd.R_nil _ _ _ _ _, KeepBut.of_below (below_alloc (Below.refl _ _) _) g none, (below_alloc (Below.refl w0.heap.size w0) _).mono (by omega), by omega, by omega, by omega, fun k hk => by have := hP k hk; omega, hb⟩
theorem take_walk (P : Nat → Prop) (w : World) (g : Nat) (l : List Int) (bad : Bool) (hI : Rd 72 P w g l bad) (hb : isBytes l) (hP : ∀ k, P k → k < w.heap.size) (x : S40) (c : Int) (l' : List Int) (b' : Bool) (hx : takeE l bad = (x, c, l', b')) :
    Calls Try.prog 48 #[.pointer (some ⟨g, 0, none⟩)] w fun e w' => ∃ v2 v3, e = .returned (.tuple #[.agg #[.string x.f0, .string x.f1, v2, v3], .int .i64 c]) ∧ Kd.string.R 9 w' w.heap.size (fun _ => True) v2 x.f2 ∧ k50.R 50 w' w.heap.size (fun _ => True) v3 x.f3 ∧
      Rd 72 P w' g l' b' ∧ isBytes l' ∧ Below g w w' ∧ KeepBut w w' g none := by
  have HI := Aside0.mk hI
  have HBY := Aside0.mk hb
  have HP := Aside0.mk hP
  have HSZ := Aside0.mk (Nat.le_trans (textOf_size l hb) hI.len)
  have HSY := Aside0.mk (Nat.le_trans (textOf_size (aftT l) (aftT_bytes hb)) (Nat.le_trans (aftT_len l hb) hI.len))
  have HX := Aside0.mk hx
  have HB := Aside0.mk (Below.refl w.heap.size w)
  clear hI hb hP hx
  have hu40 := Try.underlying40
  go_enter Try.func48, Try.ntmps48
  go_upto_region 4 with (fail)
  obtain ⟨w0, hw0⟩ : ∃ w0, w0 = (w.alloc (.cells #[.pointer (some ⟨g, 0, none⟩)] 51)).alloc (.cells #[.string ⟨#[]⟩, .string ⟨#[]⟩, .slice none 0 0, .slice none 0 0] 40) := ⟨_, rfl⟩
  obtain ⟨hz, hq, hB, hT⟩ := take_start w w0 P g l bad hw0 HI.out HBY.out HP.out
  rw [← hw0]
  have HZ := Aside0.mk hz
  have HQ := Aside0.mk hq
  have HB0 := Aside0.mk hB
  have HT1 := Aside0.mk hT
  have HGW := Aside0.mk HI.out.lt
  clear HB HI HBY hw0 hz hq hB hT
  generalize w0.alloc (.cells #[.string ⟨#[]⟩, .string ⟨#[]⟩, .slice none 0 0, .slice none 0 0] 40) = w1 at HT1 ⊢
  obtain ⟨E, hE⟩ : ∃ E, E = w.heap.size + 1 + 1 := ⟨_, rfl⟩
  rw [← hE] at HT1 ⊢
  have HE := Aside0.mk hE
  obtain ⟨Q, hQ⟩ : ∃ Q, Q = w.heap.size + 1 := ⟨_, rfl⟩
  rw [← hQ] at HQ ⊢
  have HQE := Aside0.mk (show Q ≠ E by omega)
  have HQN := Aside0.mk (show Q < w0.heap.size ∧ w.heap.size ≤ Q by rw [HZ.out]; omega)
  obtain ⟨R, hR⟩ : ∃ R, R = w.heap.size := ⟨_, rfl⟩
  rw [← hR] at HT1 ⊢
  clear hE hQ hR
  have hr0 := blk_cell HT1.out.hR 0
  go_wp2_with fail
  refine (text_calls P w1 g l bad HT1.out.rd HT1.out.by_).mono ?_
  rintro e w2 ⟨rfl, hI, hb, hk⟩
  have HT2 := Aside0.mk (HT1.out.read hI hb hk (aftT_bytes HT1.out.by_))
  clear HT1 hI hb hk hr0
  obtain ⟨s, hs⟩ : ∃ s, s = textOf l := ⟨_, rfl⟩
  rw [← hs]
  have HS := Aside0.mk hs
  clear hs
  have he0 := blk_cell HT2.out.hE 0
  have hfz := blk_frozen HT2.out.hE 0
  go_upto_region 5 with (fail)
  have HT3 := Aside0.mk (HT2.out.set0 s)
  clear HT2 he0 hfz
  generalize w2.setCell ⟨E, 0, none⟩ (.string s) = w3 at HT3 ⊢
  have hr0 := blk_cell HT3.out.hR 0
  go_wp2_with fail
  refine (text_calls P w3 g (aftT l) (badT l bad) HT3.out.rd HT3.out.by_).mono ?_
  rintro e w4 ⟨rfl, hI, hb, hk⟩
  have HT4 := Aside0.mk (HT3.out.read hI hb hk (aftT_bytes HT3.out.by_))
  clear HT3 hI hb hk hr0
  obtain ⟨t, ht⟩ : ∃ t, t = textOf (aftT l) := ⟨_, rfl⟩
  rw [← ht]
  have HTT := Aside0.mk ht
  clear ht
  have he0 := blk_cell HT4.out.hE 1
  have hfz := blk_frozen HT4.out.hE 1
  go_upto_region 6 with (fail)
  have HT5 := Aside0.mk (HT4.out.set1 t)
  clear HT4 he0 hfz
  generalize w4.setCell ⟨E, 1, none⟩ (.string t) = w5 at HT5 ⊢
  have hr0 := blk_cell HT5.out.hR 0
  go_wp2_with fail
  obtain ⟨n, hn⟩ : ∃ n, n = numOf (aftT (aftT l)) := ⟨_, rfl⟩
  have HN := Aside0.mk hn
  clear hn
  refine (times_calls (fun i wi => ∃ v, Tk w0 wi P g E R (takeTs i (aft (aftT (aftT l))) (badOf (aftT (aftT l)) (badT (aftT l) (badT l bad)))).2.1 (takeTs i (aft (aftT (aftT l))) (badOf (aftT (aftT l)) (badT (aftT l) (badT l bad)))).2.2 s t v (takeTs i (aft (aftT (aftT l))) (badOf (aftT (aftT l)) (badT (aftT l) (badT l bad)))).1 (.slice none 0 0) []) 6 62 (.pointer (some ⟨E, 0, none⟩)) (.pointer (some ⟨R, 0, none⟩)) P w5 g (aftT (aftT l)) (badT (aftT l) (badT l bad)) HT5.out.rd HT5.out.by_ (by decide) (by decide) (enters_of Try.func62 (by kernel_rfl) rfl)
    (fun w1 h1 h2 h3 => ⟨_, HT5.out.read h1 h2 h3 (aft_bytes HT5.out.by_)⟩) (fun i w1 hi hle hv => by
      obtain ⟨v, hv⟩ := hv
      exact (tag_calls w0 w1 P g E R _ _ s t v _ _ _ hv (by rw [takeTs_len]; omega)).mono (fun e w2 h => h))).mono ?_
  rintro e w6 (⟨hbad, rfl, hI, hb, hk⟩ | ⟨hn0, hn6, rfl, v2, hv⟩)
  · have HT6 := Aside0.mk (HT5.out.read hI hb hk (aft_bytes HT5.out.by_))
    have HBYX := Aside0.mk HT6.out.by_
    have HBAD := Aside0.mk hbad
    clear hI hb hk hr0 hbad
    have HQW := Aside0.mk ((HT6.out.keep.blk HQ.out (by have := HGW.out; have := HQN.out.2; omega) (by simp)))
    have HO := Aside0.mk (Out.of_Tk HT6.out HB0.out HGW.out)
    clear HT6 HT5
    have hq0 := blk_cell HQW.out 0
    have hq1 := blk_cell HQW.out 1
    have hq2 := blk_cell HQW.out 2
    have hq3 := blk_cell HQW.out 3
    have hf0 := blk_frozen HQW.out 0
    have hf1 := blk_frozen HQW.out 1
    have hf2 := blk_frozen HQW.out 2
    have hf3 := blk_frozen HQW.out 3
    go_wp2
    have HQ2 := blk_put (cs' := #[.string ⟨#[]⟩, .string ⟨#[]⟩, .slice none 0 0, .slice none 0 0]) (blk_put (cs' := #[.string ⟨#[]⟩, .string ⟨#[]⟩, .slice none 0 0, .slice none 0 0]) (blk_put (cs' := #[.string ⟨#[]⟩, .string ⟨#[]⟩, .slice none 0 0, .slice none 0 0]) (blk_put (cs' := #[.string ⟨#[]⟩, .string ⟨#[]⟩, .slice none 0 0, .slice none 0 0]) HQW.out 0 (.string ⟨#[]⟩) rfl) 1 (.string ⟨#[]⟩) rfl) 2 (.slice none 0 0) rfl) 3 (.slice none 0 0) rfl
    refine bodyPost_ret (results_ct rfl _ _ Q 40 _ (0, 0) _ rfl HQ2 Try.underlying40 rfl (by kernel_rfl)) rfl ?_
    have hx := HX.out
    rw [takeE_n HBAD.out] at hx
    simp only [Prod.mk.injEq] at hx
    obtain ⟨rfl, rfl, rfl, rfl⟩ := hx
    have ho := (((HO.out.set HGW.out HP.out HQN.out.2 0 (.string ⟨#[]⟩)).set HGW.out HP.out HQN.out.2 1 (.string ⟨#[]⟩)).set HGW.out HP.out HQN.out.2 2 (.slice none 0 0)).set HGW.out HP.out HQN.out.2 3 (.slice none 0 0)
    exact ⟨.slice none 0 0, .slice none 0 0, rfl, Kd.R_nil _ _ _ _ _, Kd.R_nil _ _ _ _ _, ho.1, HBYX.out, ho.2.1, ho.2.2⟩
  · obtain ⟨q, hq⟩ : ∃ q, takeTs (numOf (aftT (aftT l))).toNat (aft (aftT (aftT l))) (badOf (aftT (aftT l)) (badT (aftT l) (badT l bad))) = q := ⟨_, rfl⟩
    rw [hq] at hv
    have hql : q.1.length ≤ 6 := by rw [← hq, takeTs_len]; omega
    have hqs := takeTs_left (aft (aftT (aftT l))) (badOf (aftT (aftT l)) (badT (aftT l) (badT l bad))) (aft_bytes HT5.out.by_) (numOf (aftT (aftT l))).toNat
    rw [hq] at hqs
    have hlen5 := HT5.out.rd.len
    have HZT : Aside0 (∀ x ∈ q.1, x.size ≤ 9223372036854775807) := ⟨fun x hx => Nat.le_trans (hqs.2.2 x hx) (Nat.le_trans (aft_len _ HT5.out.by_) hlen5)⟩
    have HL6 : Aside0 (q.2.1.length ≤ 9223372036854775807) := ⟨Nat.le_trans hqs.2.1 (Nat.le_trans (aft_len _ HT5.out.by_) hlen5)⟩
    have HQQ := Aside0.mk hq
    have HN1 : Aside0 (¬ (numOf (aftT (aftT l)) < 0 ∨ 6 < numOf (aftT (aftT l)))) := ⟨by omega⟩
    have HT6 := Aside0.mk hv
    clear HT5 hr0 hv hq hn0 hn6 hqs hlen5
    obtain ⟨tags, l4, b4⟩ := q
    simp only at HT6 HZT HL6 hql
    have hr0 := blk_cell HT6.out.hR 0
    go_wp2_with fail
    refine (times_calls (fun i wi => ∃ v, Tk w0 wi P g E R (takeFs i (aft l4) (badOf l4 b4)).2.1 (takeFs i (aft l4) (badOf l4 b4)).2.2 s t v2 tags v (takeFs i (aft l4) (badOf l4 b4)).1) 4 63 (.pointer (some ⟨R, 0, none⟩)) (.pointer (some ⟨E, 0, none⟩)) P w6 g l4 b4 HT6.out.rd HT6.out.by_ (by decide) (by decide) (enters_of Try.func63 (by kernel_rfl) rfl)
      (fun w1 h1 h2 h3 => ⟨_, HT6.out.read h1 h2 h3 (aft_bytes HT6.out.by_)⟩) (fun i w1 hi hle hv => by
        obtain ⟨v, hv⟩ := hv
        exact (field_calls w0 w1 P g E R _ _ s t v2 tags v _ hv (by rw [takeFs_len]; omega)).mono (fun e w2 h => h))).mono ?_
    rintro e w7 (⟨hbad, rfl, hI, hb, hk⟩ | ⟨hn0, hn4, rfl, v3, hv⟩)
    · have HT7 := Aside0.mk (HT6.out.read hI hb hk (aft_bytes HT6.out.by_))
      have HBYX := Aside0.mk HT7.out.by_
      have HBAD := Aside0.mk hbad
      clear hI hb hk hr0 hbad HT6
      have HQW := Aside0.mk ((HT7.out.keep.blk HQ.out (by have := HGW.out; have := HQN.out.2; omega) (by simp)))
      have HO := Aside0.mk (Out.of_Tk HT7.out HB0.out HGW.out)
      clear HT7
      have hq0 := blk_cell HQW.out 0
      have hq1 := blk_cell HQW.out 1
      have hq2 := blk_cell HQW.out 2
      have hq3 := blk_cell HQW.out 3
      have hf0 := blk_frozen HQW.out 0
      have hf1 := blk_frozen HQW.out 1
      have hf2 := blk_frozen HQW.out 2
      have hf3 := blk_frozen HQW.out 3
      go_wp2
      have HQ2 := blk_put (cs' := #[.string ⟨#[]⟩, .string ⟨#[]⟩, .slice none 0 0, .slice none 0 0]) (blk_put (cs' := #[.string ⟨#[]⟩, .string ⟨#[]⟩, .slice none 0 0, .slice none 0 0]) (blk_put (cs' := #[.string ⟨#[]⟩, .string ⟨#[]⟩, .slice none 0 0, .slice none 0 0]) (blk_put (cs' := #[.string ⟨#[]⟩, .string ⟨#[]⟩, .slice none 0 0, .slice none 0 0]) HQW.out 0 (.string ⟨#[]⟩) rfl) 1 (.string ⟨#[]⟩) rfl) 2 (.slice none 0 0) rfl) 3 (.slice none 0 0) rfl
      refine bodyPost_ret (results_ct rfl _ _ Q 40 _ (0, 0) _ rfl HQ2 Try.underlying40 rfl (by kernel_rfl)) rfl ?_
      have hx := HX.out
      rw [takeE_m HN1.out HQQ.out HBAD.out] at hx
      simp only [Prod.mk.injEq] at hx
      obtain ⟨rfl, rfl, rfl, rfl⟩ := hx
      have ho := (((HO.out.set HGW.out HP.out HQN.out.2 0 (.string ⟨#[]⟩)).set HGW.out HP.out HQN.out.2 1 (.string ⟨#[]⟩)).set HGW.out HP.out HQN.out.2 2 (.slice none 0 0)).set HGW.out HP.out HQN.out.2 3 (.slice none 0 0)
      exact ⟨.slice none 0 0, .slice none 0 0, rfl, Kd.R_nil _ _ _ _ _, Kd.R_nil _ _ _ _ _, ho.1, HBYX.out, ho.2.1, ho.2.2⟩
    · obtain ⟨q2, hq2⟩ : ∃ q2, takeFs (numOf l4).toNat (aft l4) (badOf l4 b4) = q2 := ⟨_, rfl⟩
      rw [hq2] at hv
      have hqs := takeFs_left (aft l4) (badOf l4 b4) (aft_bytes HT6.out.by_) (numOf l4).toNat
      rw [hq2] at hqs
      have hql2 : q2.1.length ≤ 4 := by rw [← hq2, takeFs_len]; omega
      have HZF : Aside0 (∀ x ∈ q2.1, x.f0.size ≤ 9223372036854775807) := ⟨fun x hx => Nat.le_trans (hqs.2.2 x hx) (Nat.le_trans (aft_len _ HT6.out.by_) HL6.out)⟩
      have HQ2 := Aside0.mk hq2
      have HN2 : Aside0 (¬ (numOf l4 < 0 ∨ 4 < numOf l4)) := ⟨by omega⟩
      have HT7 := Aside0.mk hv
      have HR := Aside0.mk (takeE_r HN1.out HQQ.out HN2.out hq2)
      clear HT6 hr0 hv hq2 hn0 hn4 hqs HQ2 HQQ HN1 HN2
      obtain ⟨fl, l6, b6⟩ := q2
      simp only at HT7 HZF hql2 HR
      have HBYX := Aside0.mk HT7.out.by_
      have hr0 := blk_cell HT7.out.hR 0
      go_wp2_with fail
      refine (bad_calls P w7 g l6 b6 HT7.out.rd).mono ?_
      rintro e w8 ⟨rfl, rfl⟩
      cases b6 with
      | true =>
        have HR2 := Aside0.mk (HR.out.trans (if_pos (.inl rfl)))
        clear hr0 HR
        have HQW := Aside0.mk ((HT7.out.keep.blk HQ.out (by have := HGW.out; have := HQN.out.2; omega) (by simp)))
        have HO := Aside0.mk (Out.of_Tk HT7.out HB0.out HGW.out)
        clear HT7
        have hq0 := blk_cell HQW.out 0
        have hq1 := blk_cell HQW.out 1
        have hq2 := blk_cell HQW.out 2
        have hq3 := blk_cell HQW.out 3
        have hf0 := blk_frozen HQW.out 0
        have hf1 := blk_frozen HQW.out 1
        have hf2 := blk_frozen HQW.out 2
        have hf3 := blk_frozen HQW.out 3
        go_wp2
        have HQ2 := blk_put (cs' := #[.string ⟨#[]⟩, .string ⟨#[]⟩, .slice none 0 0, .slice none 0 0]) (blk_put (cs' := #[.string ⟨#[]⟩, .string ⟨#[]⟩, .slice none 0 0, .slice none 0 0]) (blk_put (cs' := #[.string ⟨#[]⟩, .string ⟨#[]⟩, .slice none 0 0, .slice none 0 0]) (blk_put (cs' := #[.string ⟨#[]⟩, .string ⟨#[]⟩, .slice none 0 0, .slice none 0 0]) HQW.out 0 (.string ⟨#[]⟩) rfl) 1 (.string ⟨#[]⟩) rfl) 2 (.slice none 0 0) rfl) 3 (.slice none 0 0) rfl
        refine bodyPost_ret (results_ct rfl _ _ Q 40 _ (0, 0) _ rfl HQ2 Try.underlying40 rfl (by kernel_rfl)) rfl ?_
        have hx := HX.out
        rw [HR2.out] at hx
        simp only [Prod.mk.injEq] at hx
        obtain ⟨rfl, rfl, rfl, rfl⟩ := hx
        have ho := (((HO.out.set HGW.out HP.out HQN.out.2 0 (.string ⟨#[]⟩)).set HGW.out HP.out HQN.out.2 1 (.string ⟨#[]⟩)).set HGW.out HP.out HQN.out.2 2 (.slice none 0 0)).set HGW.out HP.out HQN.out.2 3 (.slice none 0 0)
        exact ⟨.slice none 0 0, .slice none 0 0, rfl, Kd.R_nil _ _ _ _ _, Kd.R_nil _ _ _ _ _, ho.1, HBYX.out, ho.2.1, ho.2.2⟩
      | false =>
        obtain ⟨A2, c2, e2, hc2, hC2⟩ := Kd.R_reads HT7.out.r2
        subst e2
        obtain ⟨A3, c3, e3, hc3, hC3⟩ := Kd.R_reads HT7.out.r3
        subst e3
        have HC2 := Aside0.mk hC2
        have HC3 := Aside0.mk hC3
        have he0 := blk_cell HT7.out.hE 0
        have he1 := blk_cell HT7.out.hE 1
        have he2 := blk_cell HT7.out.hE 2
        have he3 := blk_cell HT7.out.hE 3
        clear hC2 hC3
        go_wp2_with fail
        refine (eventMay_calls s t A2 A3 c2 c3 tags fl w7 HC2.out hc2 HC3.out hc3 (by rw [HS.out]; exact HSZ.out) (by rw [HTT.out]; exact HSY.out) HZT.out HZF.out (by omega)).mono ?_
        rintro e w8 ⟨rfl, hb⟩
        have HT8 := Aside0.mk (HT7.out.up hb)
        clear HT7 hb he0 he1 he2 he3 hr0 HC2 HC3
        obtain ⟨m, hm⟩ : ∃ m, m = mayE s t tags fl := ⟨_, rfl⟩
        rw [← hm]
        have HM := Aside0.mk hm
        clear hm
        by_cases h0 : m = 0
        · have hbn : (m != 0) = false := bne_eq_false_iff_eq.mpr h0
          have HR2 := Aside0.mk (HR.out.trans (if_neg (by rintro (h | h); (· cases h); exact h (by rw [← HS.out, ← HTT.out, ← HM.out]; exact h0))))
          clear h0 HR
          have HQW := Aside0.mk ((HT8.out.keep.blk HQ.out (by have := HGW.out; have := HQN.out.2; omega) (by simp)))
          have HO := Aside0.mk (Out.of_Tk HT8.out HB0.out HGW.out)
          have hq0 := blk_cell HQW.out 0
          have hq1 := blk_cell HQW.out 1
          have hq2 := blk_cell HQW.out 2
          have hq3 := blk_cell HQW.out 3
          have hf0 := blk_frozen HQW.out 0
          have hf1 := blk_frozen HQW.out 1
          have hf2 := blk_frozen HQW.out 2
          have hf3 := blk_frozen HQW.out 3
          have he0 := blk_cell HT8.out.hE 0
          have he1 := blk_cell HT8.out.hE 1
          have he2 := blk_cell HT8.out.hE 2
          have he3 := blk_cell HT8.out.hE 3
          go_wp2
          have HQ2 := blk_put (cs' := #[.string s, .string t, .slice A2 tags.length c2, .slice A3 fl.length c3]) (blk_put (cs' := #[.string s, .string t, .slice A2 tags.length c2, .slice none 0 0]) (blk_put (cs' := #[.string s, .string t, .slice none 0 0, .slice none 0 0]) (blk_put (cs' := #[.string s, .string ⟨#[]⟩, .slice none 0 0, .slice none 0 0]) HQW.out 0 (.string s) rfl) 1 (.string t) rfl) 2 (.slice A2 tags.length c2) rfl) 3 (.slice A3 fl.length c3) rfl
          refine bodyPost_ret (results_ct rfl _ _ Q 40 _ (0, 0) _ rfl HQ2 Try.underlying40 rfl (by kernel_rfl)) rfl ?_
          have hx := HX.out
          rw [HR2.out] at hx
          simp only [Prod.mk.injEq] at hx
          obtain ⟨rfl, rfl, rfl, rfl⟩ := hx
          have ho := (((HO.out.set HGW.out HP.out HQN.out.2 0 (.string s)).set HGW.out HP.out HQN.out.2 1 (.string t)).set HGW.out HP.out HQN.out.2 2 (.slice A2 tags.length c2)).set HGW.out HP.out HQN.out.2 3 (.slice A3 fl.length c3)
          exact ⟨.slice A2 tags.length c2, .slice A3 fl.length c3, by rw [HS.out, HTT.out]; rfl, Kd.R_lower (R_set4 HT8.out.r2 HQW.out (by decide) _ _ _ _) HB0.out.size, Kd.R_lower (R_set4 HT8.out.r3 HQW.out (by decide) _ _ _ _) HB0.out.size, ho.1, HBYX.out, ho.2.1, ho.2.2⟩
        · have hbn : (m != 0) = true := bne_iff_ne.mpr h0
          have HR2 := Aside0.mk (HR.out.trans (if_pos (.inr (by rw [← HS.out, ← HTT.out, ← HM.out]; exact h0))))
          clear h0 HR
          have HQW := Aside0.mk ((HT8.out.keep.blk HQ.out (by have := HGW.out; have := HQN.out.2; omega) (by simp)))
          have HO := Aside0.mk (Out.of_Tk HT8.out HB0.out HGW.out)
          clear HT8
          have hq0 := blk_cell HQW.out 0
          have hq1 := blk_cell HQW.out 1
          have hq2 := blk_cell HQW.out 2
          have hq3 := blk_cell HQW.out 3
          have hf0 := blk_frozen HQW.out 0
          have hf1 := blk_frozen HQW.out 1
          have hf2 := blk_frozen HQW.out 2
          have hf3 := blk_frozen HQW.out 3
          go_wp2
          have HQ2 := blk_put (cs' := #[.string ⟨#[]⟩, .string ⟨#[]⟩, .slice none 0 0, .slice none 0 0]) (blk_put (cs' := #[.string ⟨#[]⟩, .string ⟨#[]⟩, .slice none 0 0, .slice none 0 0]) (blk_put (cs' := #[.string ⟨#[]⟩, .string ⟨#[]⟩, .slice none 0 0, .slice none 0 0]) (blk_put (cs' := #[.string ⟨#[]⟩, .string ⟨#[]⟩, .slice none 0 0, .slice none 0 0]) HQW.out 0 (.string ⟨#[]⟩) rfl) 1 (.string ⟨#[]⟩) rfl) 2 (.slice none 0 0) rfl) 3 (.slice none 0 0) rfl
          refine bodyPost_ret (results_ct rfl _ _ Q 40 _ (0, 0) _ rfl HQ2 Try.underlying40 rfl (by kernel_rfl)) rfl ?_
          have hx := HX.out
          rw [HR2.out] at hx
          simp only [Prod.mk.injEq] at hx
          obtain ⟨rfl, rfl, rfl, rfl⟩ := hx
          have ho := (((HO.out.set HGW.out HP.out HQN.out.2 0 (.string ⟨#[]⟩)).set HGW.out HP.out HQN.out.2 1 (.string ⟨#[]⟩)).set HGW.out HP.out HQN.out.2 2 (.slice none 0 0)).set HGW.out HP.out HQN.out.2 3 (.slice none 0 0)
          exact ⟨.slice none 0 0, .slice none 0 0, rfl, Kd.R_nil _ _ _ _ _, Kd.R_nil _ _ _ _ _, ho.1, HBYX.out, ho.2.1, ho.2.2⟩
end Go.Proofs.Ytafeakcajhhkoaa.Num
namespace Go.Proofs.Ytafeakcajhhkoaa.Prt
open Go.RowKit Go.Proofs.YtafeakcajhhkoaaW.PrintWords Go.Proofs.YtafeakcajhhkoaaW.PrintLast Go.Proofs.YtafeakcajhhkoaaW.PrintMore Go.Proofs.Ytafeakcajhhkoaa.Num Go.Proofs.Ytafeakcajhhkoaa.Nam
set_option linter.unusedVariables false
set_option linter.unusedSimpArgs false

theorem mayG_big (s : ByteArray) (h : 24 < s.size) : registrarref03_May.f 1 s = some (mayL (bytesOf s)) := by
  have e : mayL (bytesOf s) = false := by unfold mayL; rw [bytes_length, decide_eq_false (by omega)]; rfl
  rw [e]
  unfold registrarref03_May.f
  rw [if_neg (by omega), if_pos (by omega)]; rfl
def registrarref03_MayG.f (a0 : ByteArray) : Option (Bool) := if a0.size ≤ 9223372036854775807 then some (mayL (bytesOf a0)) else none
theorem registrarref03_MayG.val {a0 : ByteArray} {r : Bool} (h : registrarref03_MayG.f a0 = some r) : ∃ k, registrarref03_May.f k a0 = some r := by
  unfold registrarref03_MayG.f at h
  by_cases hc : a0.size ≤ 9223372036854775807
  · rw [if_pos hc] at h
    obtain rfl := Option.some.inj h
    by_cases h2 : a0.size ≤ 24
    · exact ⟨_, may_val a0 (by omega)⟩
    · exact ⟨_, mayG_big a0 (by omega)⟩
  · rw [if_neg hc] at h; cases h
theorem registrarref03_MayG.calls (a0 : ByteArray) (r : Bool) (w : World) (h : registrarref03_MayG.f a0 = some r) :
    Calls Try.prog 43 #[.string a0] w fun e w' => e = .returned (.bool r) ∧ Below w.heap.size w w' := by
  obtain ⟨k, hk⟩ := registrarref03_MayG.val h
  exact registrarref03_May.calls k a0 r w hk
end Go.Proofs.Ytafeakcajhhkoaa.Prt
namespace Go.Proofs.Ytafeakcajhhkoaa.Prt
open Go.RowKit Go.Proofs.YtafeakcajhhkoaaW.PrintWords Go.Proofs.YtafeakcajhhkoaaW.PrintLast Go.Proofs.YtafeakcajhhkoaaW.PrintMore
attribute [local go_sem] max2_int min2_int max_two min_two max_three min_three max_four min_four   -- for this text's walks alone
set_option linter.unusedVariables false
set_option linter.unusedSimpArgs false

def registrarref03_Parts.l0 : Nat → ByteArray → Int → Option (ByteArray × ByteArray × Bool)
  | 0, _, _ => none
  | k + 1, x0, x5 => if x5 < (x0.size : Int) then (if 0 ≤ x5 then (if (bt x0 x5) = 58 then (if x5 ≤ (x0.size : Int) then ((registrarref03_MayG.f (x0.extract 0 (x5 : Int).toNat)).bind fun t198 => (if 0 ≤ (wrap64 (x5 + 1)) then (if (wrap64 (x5 + 1)) ≤ (x0.size : Int) then ((registrarref03_MayG.f (x0.extract ((wrap64 (x5 + 1)) : Int).toNat x0.size)).bind fun t199 => (if t198 = true then (if t199 = true then (some (x0.extract 0 (x5 : Int).toNat, x0.extract ((wrap64 (x5 + 1)) : Int).toNat x0.size, true)) else (some ((⟨#[]⟩ : ByteArray), (⟨#[]⟩ : ByteArray), false))) else (some ((⟨#[]⟩ : ByteArray), (⟨#[]⟩ : ByteArray), false)))) else (none)) else (none))) else (none)) else (registrarref03_Parts.l0 k x0 (wrap64 (x5 + 1)))) else (none)) else (some ((⟨#[]⟩ : ByteArray), (⟨#[]⟩ : ByteArray), false))
def registrarref03_Parts.f (k : Nat) (a0 : ByteArray) : Option (ByteArray × ByteArray × Bool) := registrarref03_Parts.l0 k a0 0
set_option maxHeartbeats 8000000 in
set_option maxRecDepth 100000 in
theorem registrarref03_Parts.calls (k : Nat) (a0 : ByteArray) (r1 : ByteArray) (r2 : ByteArray) (r3 : Bool) (w : World) (h : registrarref03_Parts.f k a0 = some (r1, r2, r3)) :
    Calls Try.prog 58 #[.string a0] w fun e w' => e = .returned (.tuple #[.string r1, .string r2, .bool r3]) ∧ Below w.heap.size w w' := by
  have HB := Aside0.mk (Below.refl w.heap.size w)
  have H : (registrarref03_Parts.l0 k a0 0) = some (r1, r2, r3) := h
  clear h
  have H' := Aside0.mk H
  clear H
  go_enter Try.func58, Try.ntmps58
  go_wp2
  repeat (go_quiet (fail); try go_wp2)
  go_loopg [5] k (fun kq v5 w' => ∃ (x5_1 : Int), v5 = .int .i64 x5_1 ∧ Aside0 (registrarref03_Parts.l0 kq a0 x5_1 = some (r1, r2, r3)) ∧ Aside0 (kq ≤ k) ∧ Aside0 (Below w.heap.size w w'))
  case atStart => exact ⟨(0), (by first | rfl | (simp; done) | (simp [*]; done)), H', ⟨Nat.le_refl _⟩, ⟨by repeat (first | (with_reducible first | exact HB.out | apply below_alloc | apply pw_below_drewN | apply below_drew1) | exact HB.out)⟩⟩
  case round =>
    clear H'
    obtain ⟨x5_1, rfl, HA, HK1, HB⟩ := hrel
    cases gk with
    | zero => exact absurd HA.out (by simp [registrarref03_Parts.l0])
    | succ k1 =>
      have H := HA.out
      clear HA
      simp only [registrarref03_Parts.l0] at H
      by_cases c2 : x5_1 < (a0.size : Int)
      · rw [if_pos c2] at H
        have c2b0 : decide (x5_1 < (a0.size : Int)) = true := decide_eq_true c2
        clear c2
        by_cases c3 : 0 ≤ x5_1
        · rw [if_pos c3] at H
          have c3b0 : decide (0 ≤ x5_1) = true := decide_eq_true c3
          clear c3
          by_cases c5 : (bt a0 x5_1) = 58
          · rw [if_pos c5] at H
            have c5b0 : ((bt a0 x5_1) == 58) = true := beq_iff_eq.mpr c5
            have c5b1 : ((bt a0 x5_1) != 58) = false := bne_eq_false_iff_eq.mpr c5
            clear c5
            have c6b0 := eq_true (of_decide_eq_true (by first | (with_reducible assumption) | assumption) : 0 ≤ x5_1)
            by_cases c7 : x5_1 ≤ (a0.size : Int)
            · rw [if_pos c7] at H
              have c7b0 := eq_true c7
              have c7b1 : decide (x5_1 ≤ (a0.size : Int)) = true := decide_eq_true c7
              clear c7
              replace H := Option.bind_eq_some_iff.mp H
              obtain ⟨t198, A80, H⟩ := H
              replace H : (if 0 ≤ (wrap64 (x5_1 + 1)) then (if (wrap64 (x5_1 + 1)) ≤ (a0.size : Int) then ((registrarref03_MayG.f (a0.extract ((wrap64 (x5_1 + 1)) : Int).toNat a0.size)).bind fun t199 => (if t198 = true then (if t199 = true then (some (a0.extract 0 (x5_1 : Int).toNat, a0.extract ((wrap64 (x5_1 + 1)) : Int).toNat a0.size, true)) else (some ((⟨#[]⟩ : ByteArray), (⟨#[]⟩ : ByteArray), false))) else (some ((⟨#[]⟩ : ByteArray), (⟨#[]⟩ : ByteArray), false)))) else (none)) else (none)) = some (r1, r2, r3) := H
              have A8 := Aside0.mk A80
              clear A80
              obtain ⟨ji9, hji9⟩ : ∃ j_ : Int, (wrap64 (x5_1 + 1)) = j_ := ⟨_, rfl⟩
              replace H : (if 0 ≤ (ji9) then (if (ji9) ≤ (a0.size : Int) then ((registrarref03_MayG.f (a0.extract ((ji9) : Int).toNat a0.size)).bind fun t199 => (if t198 = true then (if t199 = true then (some (a0.extract 0 (x5_1 : Int).toNat, a0.extract ((ji9) : Int).toNat a0.size, true)) else (some ((⟨#[]⟩ : ByteArray), (⟨#[]⟩ : ByteArray), false))) else (some ((⟨#[]⟩ : ByteArray), (⟨#[]⟩ : ByteArray), false)))) else (none)) else (none)) = some (r1, r2, r3) := by first | (rw [hji9] at H; exact H) | (simp only [hji9] at H ⊢; exact H)
              (try rw [hji9] at A8)
              have hji9w : (IntKind.i64.wrap (x5_1 + 1)) = ji9 := (i64_w _).trans hji9
              by_cases c10 : 0 ≤ (ji9)
              · rw [if_pos c10] at H
                have c10b0 := eq_true c10
                have c10b1 : decide (0 ≤ (ji9)) = true := decide_eq_true c10
                clear c10
                by_cases c11 : (ji9) ≤ (a0.size : Int)
                · rw [if_pos c11] at H
                  have c11b0 := eq_true c11
                  have c11b1 : decide ((ji9) ≤ (a0.size : Int)) = true := decide_eq_true c11
                  clear c11
                  replace H := Option.bind_eq_some_iff.mp H
                  obtain ⟨t199, A120, H⟩ := H
                  replace H : (if t198 = true then (if t199 = true then (some (a0.extract 0 (x5_1 : Int).toNat, a0.extract ((ji9) : Int).toNat a0.size, true)) else (some ((⟨#[]⟩ : ByteArray), (⟨#[]⟩ : ByteArray), false))) else (some ((⟨#[]⟩ : ByteArray), (⟨#[]⟩ : ByteArray), false))) = some (r1, r2, r3) := H
                  have A12 := Aside0.mk A120
                  clear A120
                  by_cases c13 : t198 = true
                  · subst c13
                    have H1 : (if t199 = true then (some (a0.extract 0 (x5_1 : Int).toNat, a0.extract ((ji9) : Int).toNat a0.size, true)) else (some ((⟨#[]⟩ : ByteArray), (⟨#[]⟩ : ByteArray), false))) = some (r1, r2, r3) := by rw [if_pos rfl] at H; exact H
                    clear H
                    have H := H1
                    clear H1
                    by_cases c14 : t199 = true
                    · subst c14
                      have H1 : (some (a0.extract 0 (x5_1 : Int).toNat, a0.extract ((ji9) : Int).toNat a0.size, true)) = some (r1, r2, r3) := by rw [if_pos rfl] at H; exact H
                      clear H
                      have H := H1
                      clear H1
                      have c15b0 := eq_true (of_decide_eq_true (by first | (with_reducible assumption) | assumption) : 0 ≤ x5_1)
                      have c16b0 := eq_true (of_decide_eq_true (by first | (with_reducible assumption) | assumption) : x5_1 ≤ (a0.size : Int))
                      have c17b0 := eq_true (of_decide_eq_true (by first | (with_reducible assumption) | assumption) : 0 ≤ (ji9))
                      have c18b0 := eq_true (of_decide_eq_true (by first | (with_reducible assumption) | assumption) : (ji9) ≤ (a0.size : Int))
                      simp only [Option.some.injEq, Prod.mk.injEq] at H
                      obtain ⟨rfl, rfl, rfl⟩ := H
                      have p4 : 0 ≤ (x5_1 : Int) := of_decide_eq_true (by first | (with_reducible assumption) | assumption)
                      have q4 : x5_1 < (a0.size : Int) := of_decide_eq_true (by first | (with_reducible assumption) | assumption)
                      have hx4 := bt_at a0 x5_1
                      replace p4 := eq_true p4
                      replace q4 := eq_true q4
                      go_wp2_with (first | (go_at_call 43; (with_reducible refine (registrarref03_MayG.calls (a0.extract 0 (x5_1 : Int).toNat) true _ A8.out).mono ?_); rintro e w19 ⟨rfl, hb⟩; have n0_ := Aside0.mk (below_step (by repeat (first | (with_reducible first | exact HB.out | apply below_alloc | apply pw_below_drewN | apply below_drew1) | exact HB.out)) hb); clear HB; have HB := n0_; clear n0_; (try clear hb); (try clear hb2); (try clear hk); (try clear hi)) | (go_at_call 43; (with_reducible refine (registrarref03_MayG.calls (a0.extract ((ji9) : Int).toNat a0.size) true _ A12.out).mono ?_); rintro e w20 ⟨rfl, hb⟩; have n0_ := Aside0.mk (below_step (by repeat (first | (with_reducible first | exact HB.out | apply below_alloc | apply pw_below_drewN | apply below_drew1) | exact HB.out)) hb); clear HB; have HB := n0_; clear n0_; (try clear hb); (try clear hb2); (try clear hk); (try clear hi)))
                      repeat (go_quiet (first | (go_at_call 43; (with_reducible refine (registrarref03_MayG.calls (a0.extract 0 (x5_1 : Int).toNat) true _ A8.out).mono ?_); rintro e w19 ⟨rfl, hb⟩; have n0_ := Aside0.mk (below_step (by repeat (first | (with_reducible first | exact HB.out | apply below_alloc | apply pw_below_drewN | apply below_drew1) | exact HB.out)) hb); clear HB; have HB := n0_; clear n0_; (try clear hb); (try clear hb2); (try clear hk); (try clear hi)) | (go_at_call 43; (with_reducible refine (registrarref03_MayG.calls (a0.extract ((ji9) : Int).toNat a0.size) true _ A12.out).mono ?_); rintro e w20 ⟨rfl, hb⟩; have n0_ := Aside0.mk (below_step (by repeat (first | (with_reducible first | exact HB.out | apply below_alloc | apply pw_below_drewN | apply below_drew1) | exact HB.out)) hb); clear HB; have HB := n0_; clear n0_; (try clear hb); (try clear hb2); (try clear hk); (try clear hi))); try go_wp2_with (first | (go_at_call 43; (with_reducible refine (registrarref03_MayG.calls (a0.extract 0 (x5_1 : Int).toNat) true _ A8.out).mono ?_); rintro e w19 ⟨rfl, hb⟩; have n0_ := Aside0.mk (below_step (by repeat (first | (with_reducible first | exact HB.out | apply below_alloc | apply pw_below_drewN | apply below_drew1) | exact HB.out)) hb); clear HB; have HB := n0_; clear n0_; (try clear hb); (try clear hb2); (try clear hk); (try clear hi)) | (go_at_call 43; (with_reducible refine (registrarref03_MayG.calls (a0.extract ((ji9) : Int).toNat a0.size) true _ A12.out).mono ?_); rintro e w20 ⟨rfl, hb⟩; have n0_ := Aside0.mk (below_step (by repeat (first | (with_reducible first | exact HB.out | apply below_alloc | apply pw_below_drewN | apply below_drew1) | exact HB.out)) hb); clear HB; have HB := n0_; clear n0_; (try clear hb); (try clear hb2); (try clear hk); (try clear hi))))
                      go_ret3
                      exact ⟨by first | rfl | (simp [errW_none, errW_some] <;> rfl) | (simp only [← hji9]; first | rfl | (simp [errW_none, errW_some] <;> rfl)) | (simp [*, errW_none, errW_some] <;> rfl), by repeat (first | (with_reducible first | exact HB.out | apply below_alloc | apply pw_below_drewN | apply below_drew1) | exact HB.out)⟩
                    · replace c14 := Bool.eq_false_iff.mpr c14
                      subst c14
                      have H1 : (some ((⟨#[]⟩ : ByteArray), (⟨#[]⟩ : ByteArray), false)) = some (r1, r2, r3) := by rw [if_neg (show ¬ (false = true) by decide)] at H; exact H
                      clear H
                      have H := H1
                      clear H1
                      simp only [Option.some.injEq, Prod.mk.injEq] at H
                      obtain ⟨rfl, rfl, rfl⟩ := H
                      have p4 : 0 ≤ (x5_1 : Int) := of_decide_eq_true (by first | (with_reducible assumption) | assumption)
                      have q4 : x5_1 < (a0.size : Int) := of_decide_eq_true (by first | (with_reducible assumption) | assumption)
                      have hx4 := bt_at a0 x5_1
                      replace p4 := eq_true p4
                      replace q4 := eq_true q4
                      go_wp2_with (first | (go_at_call 43; (with_reducible refine (registrarref03_MayG.calls (a0.extract 0 (x5_1 : Int).toNat) true _ A8.out).mono ?_); rintro e w21 ⟨rfl, hb⟩; have n0_ := Aside0.mk (below_step (by repeat (first | (with_reducible first | exact HB.out | apply below_alloc | apply pw_below_drewN | apply below_drew1) | exact HB.out)) hb); clear HB; have HB := n0_; clear n0_; (try clear hb); (try clear hb2); (try clear hk); (try clear hi)) | (go_at_call 43; (with_reducible refine (registrarref03_MayG.calls (a0.extract ((ji9) : Int).toNat a0.size) false _ A12.out).mono ?_); rintro e w22 ⟨rfl, hb⟩; have n0_ := Aside0.mk (below_step (by repeat (first | (with_reducible first | exact HB.out | apply below_alloc | apply pw_below_drewN | apply below_drew1) | exact HB.out)) hb); clear HB; have HB := n0_; clear n0_; (try clear hb); (try clear hb2); (try clear hk); (try clear hi)))
                      repeat (go_quiet (first | (go_at_call 43; (with_reducible refine (registrarref03_MayG.calls (a0.extract 0 (x5_1 : Int).toNat) true _ A8.out).mono ?_); rintro e w21 ⟨rfl, hb⟩; have n0_ := Aside0.mk (below_step (by repeat (first | (with_reducible first | exact HB.out | apply below_alloc | apply pw_below_drewN | apply below_drew1) | exact HB.out)) hb); clear HB; have HB := n0_; clear n0_; (try clear hb); (try clear hb2); (try clear hk); (try clear hi)) | (go_at_call 43; (with_reducible refine (registrarref03_MayG.calls (a0.extract ((ji9) : Int).toNat a0.size) false _ A12.out).mono ?_); rintro e w22 ⟨rfl, hb⟩; have n0_ := Aside0.mk (below_step (by repeat (first | (with_reducible first | exact HB.out | apply below_alloc | apply pw_below_drewN | apply below_drew1) | exact HB.out)) hb); clear HB; have HB := n0_; clear n0_; (try clear hb); (try clear hb2); (try clear hk); (try clear hi))); try go_wp2_with (first | (go_at_call 43; (with_reducible refine (registrarref03_MayG.calls (a0.extract 0 (x5_1 : Int).toNat) true _ A8.out).mono ?_); rintro e w21 ⟨rfl, hb⟩; have n0_ := Aside0.mk (below_step (by repeat (first | (with_reducible first | exact HB.out | apply below_alloc | apply pw_below_drewN | apply below_drew1) | exact HB.out)) hb); clear HB; have HB := n0_; clear n0_; (try clear hb); (try clear hb2); (try clear hk); (try clear hi)) | (go_at_call 43; (with_reducible refine (registrarref03_MayG.calls (a0.extract ((ji9) : Int).toNat a0.size) false _ A12.out).mono ?_); rintro e w22 ⟨rfl, hb⟩; have n0_ := Aside0.mk (below_step (by repeat (first | (with_reducible first | exact HB.out | apply below_alloc | apply pw_below_drewN | apply below_drew1) | exact HB.out)) hb); clear HB; have HB := n0_; clear n0_; (try clear hb); (try clear hb2); (try clear hk); (try clear hi))))
                      go_ret3
                      exact ⟨by first | rfl | (simp [errW_none, errW_some] <;> rfl) | (simp only [← hji9]; first | rfl | (simp [errW_none, errW_some] <;> rfl)) | (simp [*, errW_none, errW_some] <;> rfl), by repeat (first | (with_reducible first | exact HB.out | apply below_alloc | apply pw_below_drewN | apply below_drew1) | exact HB.out)⟩
                  · replace c13 := Bool.eq_false_iff.mpr c13
                    subst c13
                    have H1 : (some ((⟨#[]⟩ : ByteArray), (⟨#[]⟩ : ByteArray), false)) = some (r1, r2, r3) := by rw [if_neg (show ¬ (false = true) by decide)] at H; exact H
                    clear H
                    have H := H1
                    clear H1
                    simp only [Option.some.injEq, Prod.mk.injEq] at H
                    obtain ⟨rfl, rfl, rfl⟩ := H
                    have p4 : 0 ≤ (x5_1 : Int) := of_decide_eq_true (by first | (with_reducible assumption) | assumption)
                    have q4 : x5_1 < (a0.size : Int) := of_decide_eq_true (by first | (with_reducible assumption) | assumption)
                    have hx4 := bt_at a0 x5_1
                    replace p4 := eq_true p4
                    replace q4 := eq_true q4
                    go_wp2_with (first | (go_at_call 43; (with_reducible refine (registrarref03_MayG.calls (a0.extract 0 (x5_1 : Int).toNat) false _ A8.out).mono ?_); rintro e w23 ⟨rfl, hb⟩; have n0_ := Aside0.mk (below_step (by repeat (first | (with_reducible first | exact HB.out | apply below_alloc | apply pw_below_drewN | apply below_drew1) | exact HB.out)) hb); clear HB; have HB := n0_; clear n0_; (try clear hb); (try clear hb2); (try clear hk); (try clear hi)) | (go_at_call 43; (with_reducible refine (registrarref03_MayG.calls (a0.extract ((ji9) : Int).toNat a0.size) t199 _ A12.out).mono ?_); rintro e w24 ⟨rfl, hb⟩; have n0_ := Aside0.mk (below_step (by repeat (first | (with_reducible first | exact HB.out | apply below_alloc | apply pw_below_drewN | apply below_drew1) | exact HB.out)) hb); clear HB; have HB := n0_; clear n0_; (try clear hb); (try clear hb2); (try clear hk); (try clear hi)))
                    repeat (go_quiet (first | (go_at_call 43; (with_reducible refine (registrarref03_MayG.calls (a0.extract 0 (x5_1 : Int).toNat) false _ A8.out).mono ?_); rintro e w23 ⟨rfl, hb⟩; have n0_ := Aside0.mk (below_step (by repeat (first | (with_reducible first | exact HB.out | apply below_alloc | apply pw_below_drewN | apply below_drew1) | exact HB.out)) hb); clear HB; have HB := n0_; clear n0_; (try clear hb); (try clear hb2); (try clear hk); (try clear hi)) | (go_at_call 43; (with_reducible refine (registrarref03_MayG.calls (a0.extract ((ji9) : Int).toNat a0.size) t199 _ A12.out).mono ?_); rintro e w24 ⟨rfl, hb⟩; have n0_ := Aside0.mk (below_step (by repeat (first | (with_reducible first | exact HB.out | apply below_alloc | apply pw_below_drewN | apply below_drew1) | exact HB.out)) hb); clear HB; have HB := n0_; clear n0_; (try clear hb); (try clear hb2); (try clear hk); (try clear hi))); try go_wp2_with (first | (go_at_call 43; (with_reducible refine (registrarref03_MayG.calls (a0.extract 0 (x5_1 : Int).toNat) false _ A8.out).mono ?_); rintro e w23 ⟨rfl, hb⟩; have n0_ := Aside0.mk (below_step (by repeat (first | (with_reducible first | exact HB.out | apply below_alloc | apply pw_below_drewN | apply below_drew1) | exact HB.out)) hb); clear HB; have HB := n0_; clear n0_; (try clear hb); (try clear hb2); (try clear hk); (try clear hi)) | (go_at_call 43; (with_reducible refine (registrarref03_MayG.calls (a0.extract ((ji9) : Int).toNat a0.size) t199 _ A12.out).mono ?_); rintro e w24 ⟨rfl, hb⟩; have n0_ := Aside0.mk (below_step (by repeat (first | (with_reducible first | exact HB.out | apply below_alloc | apply pw_below_drewN | apply below_drew1) | exact HB.out)) hb); clear HB; have HB := n0_; clear n0_; (try clear hb); (try clear hb2); (try clear hk); (try clear hi))))
                    go_ret3
                    exact ⟨by first | rfl | (simp [errW_none, errW_some] <;> rfl) | (simp only [← hji9]; first | rfl | (simp [errW_none, errW_some] <;> rfl)) | (simp [*, errW_none, errW_some] <;> rfl), by repeat (first | (with_reducible first | exact HB.out | apply below_alloc | apply pw_below_drewN | apply below_drew1) | exact HB.out)⟩
                · rw [if_neg c11] at H
                  exact absurd H (by simp)
              · rw [if_neg c10] at H
                exact absurd H (by simp)
            · rw [if_neg c7] at H
              exact absurd H (by simp)
          · rw [if_neg c5] at H
            have c5b0 : ((bt a0 x5_1) == 58) = false := beq_eq_false_iff_ne.mpr c5
            have c5b1 : ((bt a0 x5_1) != 58) = true := bne_iff_ne.mpr c5
            have H' := Aside0.mk H
            clear H
            have p4 : 0 ≤ (x5_1 : Int) := of_decide_eq_true (by first | (with_reducible assumption) | assumption)
            have q4 : x5_1 < (a0.size : Int) := of_decide_eq_true (by first | (with_reducible assumption) | assumption)
            have hx4 := bt_at a0 x5_1
            replace p4 := eq_true p4
            replace q4 := eq_true q4
            go_wp2
            repeat (go_quiet (fail); try go_wp2)
            go_roundg k1
            case measure => have := HK1.out; omega
            case rel => exact ⟨(wrap64 (x5_1 + 1)), (by first | rfl | (simp; done) | (simp [*]; done)), H', ⟨by have := HK1.out; omega⟩, ⟨by repeat (first | (with_reducible first | exact HB.out | apply below_alloc | apply pw_below_drewN | apply below_drew1) | exact HB.out)⟩⟩
        · rw [if_neg c3] at H
          exact absurd H (by simp)
      · rw [if_neg c2] at H
        have c2b0 : decide (x5_1 < (a0.size : Int)) = false := decide_eq_false c2
        clear c2
        simp only [Option.some.injEq, Prod.mk.injEq] at H
        obtain ⟨rfl, rfl, rfl⟩ := H
        go_wp2
        repeat (go_quiet (fail); try go_wp2)
        go_ret3
        exact ⟨by first | rfl | (simp [errW_none, errW_some] <;> rfl) | (simp [*, errW_none, errW_some] <;> rfl), by repeat (first | (with_reducible first | exact HB.out | apply below_alloc | apply pw_below_drewN | apply below_drew1) | exact HB.out)⟩

end Go.Proofs.Ytafeakcajhhkoaa.Prt
namespace Go.Proofs.Ytafeakcajhhkoaa.Prt
open Go.RowKit Go.Proofs.YtafeakcajhhkoaaW.PrintWords Go.Proofs.YtafeakcajhhkoaaW.PrintLast Go.Proofs.YtafeakcajhhkoaaW.PrintMore Go.Proofs.Ytafeakcajhhkoaa.Num Go.Proofs.Ytafeakcajhhkoaa.Nam
set_option linter.unusedVariables false
set_option linter.unusedSimpArgs false

/-- Where the first colon is. -/
def colon (s : ByteArray) : Nat := ((bytesOf s).takeWhile fun c => c != 58).length
def partsS (s : ByteArray) : ByteArray × ByteArray × Bool := if tagB s = true then (s.extract 0 (colon s), s.extract (colon s + 1) s.size, true) else ((⟨#[]⟩ : ByteArray), (⟨#[]⟩ : ByteArray), false)
theorem parts_none {s : ByteArray} (h : (58 : Int) ∉ bytesOf s) : partsS s = ((⟨#[]⟩ : ByteArray), (⟨#[]⟩ : ByteArray), false) := by
  unfold partsS
  rw [if_neg (by unfold tagB; rw [tagL_no _ h]; decide)]
theorem split_at (s : ByteArray) (i : Nat) (hi : i < s.size) (h : (bytesOf s).getD i 0 = 58) : bytesOf s = (bytesOf s).take i ++ 58 :: (bytesOf s).drop (i + 1) := by
  have := drop_cons (bytesOf s) i (by rw [bytes_length]; exact hi)
  rw [h] at this
  rw [← this, List.take_append_drop]
theorem ext0 (s : ByteArray) (i : Nat) : bytesOf (s.extract 0 i) = (bytesOf s).take i := by rw [bytes_extract, List.drop_zero, Nat.sub_zero]
theorem ext1 (s : ByteArray) (i : Nat) : bytesOf (s.extract i s.size) = (bytesOf s).drop i := by
  rw [bytes_extract, List.take_of_length_le (by rw [List.length_drop, bytes_length]; omega)]
theorem ext_le (s : ByteArray) (i j : Nat) : (s.extract i j).size ≤ s.size := by rw [ByteArray.size_extract]; omega
theorem parts_loop (s : ByteArray) (hs : s.size ≤ 9223372036854775807) : ∀ (n i k : Nat), i + n = s.size → (58 : Int) ∉ (bytesOf s).take i → n < k → registrarref03_Parts.l0 k s (i : Int) = some (partsS s) := by
  intro n
  induction n with
  | zero =>
    intro i k hi h58 hk
    obtain ⟨k, rfl⟩ : ∃ m, k = m + 1 := ⟨k - 1, by omega⟩
    rw [List.take_of_length_le (by rw [bytes_length]; omega)] at h58
    rw [registrarref03_Parts.l0, if_neg (by omega), parts_none h58]
  | succ n ih =>
    intro i k hi h58 hk
    obtain ⟨k, rfl⟩ : ∃ m, k = m + 1 := ⟨k - 1, by omega⟩
    have e1 : wrap64 ((i : Int) + 1) = ((i + 1 : Nat) : Int) := by rw [wrapI (by omega) (by omega)]; omega
    rw [registrarref03_Parts.l0, if_pos (by omega), if_pos (by omega), bt_getD s i (by omega)]
    by_cases hc : (bytesOf s).getD i 0 = 58
    · have hsp := split_at s i (by omega) hc
      have hcol : colon s = i := by
        unfold colon
        rw [hsp, (take58 _ _ h58).1, List.length_take, bytes_length]; omega
      have htag : tagB s = (mayL ((bytesOf s).take i) && mayL ((bytesOf s).drop (i + 1))) := by
        unfold tagB
        rw [hsp, tagL_cut _ _ h58]
        rw [← hsp]
      have m1 : registrarref03_MayG.f (s.extract 0 i) = some (mayL ((bytesOf s).take i)) := by
        unfold registrarref03_MayG.f
        rw [if_pos (Nat.le_trans (ext_le s 0 i) hs), ext0]
      have m2 : registrarref03_MayG.f (s.extract (i + 1) s.size) = some (mayL ((bytesOf s).drop (i + 1))) := by
        unfold registrarref03_MayG.f
        rw [if_pos (Nat.le_trans (ext_le s (i + 1) s.size) hs), ext1]
      rw [if_pos hc, if_pos (by omega), e1, Int.toNat_natCast, Int.toNat_natCast, m1, m2]
      simp only [Option.bind_some]
      rw [if_pos (by omega), if_pos (by omega)]
      unfold partsS
      rw [htag, hcol]
      cases mayL ((bytesOf s).take i) <;> cases mayL ((bytesOf s).drop (i + 1)) <;> rfl
    · rw [if_neg hc, e1, ih (i + 1) k (by omega) ?_ (by omega)]
      rw [take_snoc _ i (by rw [bytes_length]; omega), List.mem_append, not_or]
      exact ⟨h58, by rw [List.mem_singleton]; exact fun e => hc e.symm⟩
def registrarref03_PartsG.f (a0 : ByteArray) : Option (ByteArray × ByteArray × Bool) := if a0.size ≤ 9223372036854775807 then some (partsS a0) else none
theorem registrarref03_PartsG.val {a0 : ByteArray} {r1 r2 : ByteArray} {r3 : Bool} (h : registrarref03_PartsG.f a0 = some (r1, r2, r3)) : ∃ k, registrarref03_Parts.f k a0 = some (r1, r2, r3) := by
  unfold registrarref03_PartsG.f at h
  by_cases hc : a0.size ≤ 9223372036854775807
  · rw [if_pos hc] at h
    rw [← h]
    exact ⟨_, parts_loop a0 hc a0.size 0 (a0.size + 1) (by omega) (by simp) (by omega)⟩
  · rw [if_neg hc] at h; cases h
theorem registrarref03_PartsG.calls (a0 : ByteArray) (r1 : ByteArray) (r2 : ByteArray) (r3 : Bool) (w : World) (h : registrarref03_PartsG.f a0 = some (r1, r2, r3)) :
    Calls Try.prog 58 #[.string a0] w fun e w' => e = .returned (.tuple #[.string r1, .string r2, .bool r3]) ∧ Below w.heap.size w w' := by
  obtain ⟨k, hk⟩ := registrarref03_PartsG.val h
  exact registrarref03_Parts.calls k a0 r1 r2 r3 w hk
end Go.Proofs.Ytafeakcajhhkoaa.Prt
namespace Go.Proofs.Ytafeakcajhhkoaa.Prt
open Go.RowKit Go.Proofs.YtafeakcajhhkoaaW.PrintWords Go.Proofs.YtafeakcajhhkoaaW.PrintLast Go.Proofs.YtafeakcajhhkoaaW.PrintMore
attribute [local go_sem] max2_int min2_int max_two min_two max_three min_three max_four min_four   -- for this text's walks alone
set_option linter.unusedVariables false
set_option linter.unusedSimpArgs false

def registrarref04_tags.l0 : Nat → List ByteArray → Int → Option (Bool)
  | 0, _, _ => none
  | k + 1, x0, x3 => if x3 < (x0.length : Int) then (if 0 ≤ x3 then ((registrarref03_PartsG.f (rdOf ByteArray.empty x0 x3)).bind fun bt201 => (if bt201.2.2 = true then (registrarref04_tags.l0 k x0 (wrap64 (x3 + 1))) else (some false))) else (none)) else (some true)
def registrarref04_tags.f (k : Nat) (l0 : List ByteArray) : Option (Bool) := registrarref04_tags.l0 k l0 0
set_option maxHeartbeats 8000000 in
set_option maxRecDepth 100000 in
theorem registrarref04_tags.calls (k : Nat) (A0 : Option Addr) (c0 : Nat) (l0 : List ByteArray) (r : Bool) (w : World) (hr0 : Kd.C Kd.string w A0 l0.length l0) (hc0 : l0.length ≤ c0) (h : registrarref04_tags.f k l0 = some r) :
    Calls Try.prog 44 #[.slice A0 l0.length c0] w fun e w' => e = .returned (.bool r) ∧ Below w.heap.size w w' := by
  have HR0 := Aside0.mk hr0
  have HC0 := Aside0.mk hc0
  clear hr0 hc0
  have HB := Aside0.mk (Below.refl w.heap.size w)
  have H : (registrarref04_tags.l0 k l0 0) = some r := h
  clear h
  have H' := Aside0.mk H
  clear H
  go_enter Try.func44, Try.ntmps44
  go_wp2
  go_loopg [3] k (fun kq v3 w' => ∃ (x3_1 : Int), v3 = .int .i64 x3_1 ∧ Aside0 (registrarref04_tags.l0 kq l0 x3_1 = some r) ∧ Aside0 (kq ≤ k) ∧ Aside0 (Below w.heap.size w w'))
  case atStart => exact ⟨(0), (by first | rfl | (simp; done) | (simp [*]; done)), H', ⟨Nat.le_refl _⟩, ⟨by repeat (first | (with_reducible first | exact HB.out | apply below_alloc | apply pw_below_drewN | apply below_drew1) | exact HB.out)⟩⟩
  case round =>
    clear H'
    obtain ⟨x3_1, rfl, HA, HK1, HB⟩ := hrel
    cases gk with
    | zero => exact absurd HA.out (by simp [registrarref04_tags.l0])
    | succ k1 =>
      have H := HA.out
      clear HA
      simp only [registrarref04_tags.l0] at H
      by_cases c2 : x3_1 < (l0.length : Int)
      · rw [if_pos c2] at H
        have c2b0 : decide (x3_1 < (l0.length : Int)) = true := decide_eq_true c2
        clear c2
        by_cases c3 : 0 ≤ x3_1
        · rw [if_pos c3] at H
          have c3b0 : decide (0 ≤ x3_1) = true := decide_eq_true c3
          clear c3
          replace H := Option.bind_eq_some_iff.mp H
          obtain ⟨⟨t201, t202, t203⟩, A40, H⟩ := H
          replace H : (if t203 = true then (registrarref04_tags.l0 k1 l0 (wrap64 (x3_1 + 1))) else (some false)) = some r := H
          have A4 := Aside0.mk A40
          clear A40
          by_cases c5 : t203 = true
          · subst c5
            have H1 : (registrarref04_tags.l0 k1 l0 (wrap64 (x3_1 + 1))) = some r := by rw [if_pos rfl] at H; exact H
            clear H
            have H := H1
            clear H1
            have H' := Aside0.mk H
            clear H
            have p200 : 0 ≤ (x3_1 : Int) := of_decide_eq_true (by first | (with_reducible assumption) | assumption)
            have q200 : x3_1 < (l0.length : Int) := of_decide_eq_true (by first | (with_reducible assumption) | assumption)
            obtain ⟨ad200, e200, hx200_0⟩ := Kd.at_string HR0.out x3_1 p200 q200
            cases e200
            replace hx200_0 := (HB.out.cell (World.block_lt_of_cell? w _ hx200_0)).trans hx200_0
            replace p200 := eq_true p200
            replace q200 := eq_true q200
            go_wp2_with (first | ((with_reducible refine gate_callee (f := 58) rfl ?_); refine goesL_ (some 18) rfl rfl Try.func58 (by kernel_rfl) rfl #[.string (rdOf ByteArray.empty l0 x3_1)] rfl (by (try simp only [List.map_toArray, List.map_cons, List.map_nil]); first | done | rfl | (simp only [List.length_drop, List.length_take]; rfl)) ?_; (with_reducible refine (registrarref03_PartsG.calls (rdOf ByteArray.empty l0 x3_1) t201 t202 true _ A4.out).mono ?_); rintro e w6 ⟨rfl, hb⟩; refine ⟨_, rfl, ?_⟩; have n0_ := Aside0.mk (below_step (by repeat (first | (with_reducible first | exact HB.out | apply below_alloc | apply pw_below_drewN | apply below_drew1) | exact HB.out)) hb); clear HB; have HB := n0_; clear n0_; (try clear hb); (try clear hb2); (try clear hk); (try clear hi)))
            go_roundg k1
            case measure => have := HK1.out; omega
            case rel => exact ⟨(wrap64 (x3_1 + 1)), (by first | rfl | (simp; done) | (simp [*]; done)), H', ⟨by have := HK1.out; omega⟩, ⟨by repeat (first | (with_reducible first | exact HB.out | apply below_alloc | apply pw_below_drewN | apply below_drew1) | exact HB.out)⟩⟩
          · replace c5 := Bool.eq_false_iff.mpr c5
            subst c5
            have H1 : (some false) = some r := by rw [if_neg (show ¬ (false = true) by decide)] at H; exact H
            clear H
            have H := H1
            clear H1
            obtain rfl := Option.some.inj H
            have p200 : 0 ≤ (x3_1 : Int) := of_decide_eq_true (by first | (with_reducible assumption) | assumption)
            have q200 : x3_1 < (l0.length : Int) := of_decide_eq_true (by first | (with_reducible assumption) | assumption)
            obtain ⟨ad200, e200, hx200_0⟩ := Kd.at_string HR0.out x3_1 p200 q200
            cases e200
            replace hx200_0 := (HB.out.cell (World.block_lt_of_cell? w _ hx200_0)).trans hx200_0
            replace p200 := eq_true p200
            replace q200 := eq_true q200
            go_wp2_with (first | ((with_reducible refine gate_callee (f := 58) rfl ?_); refine goesL_ (some 18) rfl rfl Try.func58 (by kernel_rfl) rfl #[.string (rdOf ByteArray.empty l0 x3_1)] rfl (by (try simp only [List.map_toArray, List.map_cons, List.map_nil]); first | done | rfl | (simp only [List.length_drop, List.length_take]; rfl)) ?_; (with_reducible refine (registrarref03_PartsG.calls (rdOf ByteArray.empty l0 x3_1) t201 t202 false _ A4.out).mono ?_); rintro e w7 ⟨rfl, hb⟩; refine ⟨_, rfl, ?_⟩; have n0_ := Aside0.mk (below_step (by repeat (first | (with_reducible first | exact HB.out | apply below_alloc | apply pw_below_drewN | apply below_drew1) | exact HB.out)) hb); clear HB; have HB := n0_; clear n0_; (try clear hb); (try clear hb2); (try clear hk); (try clear hi)))
            go_ret
            exact ⟨by first | rfl | (simp [errW_none, errW_some] <;> rfl) | (simp [*, errW_none, errW_some] <;> rfl), by repeat (first | (with_reducible first | exact HB.out | apply below_alloc | apply pw_below_drewN | apply below_drew1) | exact HB.out)⟩
        · rw [if_neg c3] at H
          exact absurd H (by simp)
      · rw [if_neg c2] at H
        have c2b0 : decide (x3_1 < (l0.length : Int)) = false := decide_eq_false c2
        clear c2
        obtain rfl := Option.some.inj H
        go_wp2
        go_ret
        exact ⟨by first | rfl | (simp [errW_none, errW_some] <;> rfl) | (simp [*, errW_none, errW_some] <;> rfl), by repeat (first | (with_reducible first | exact HB.out | apply below_alloc | apply pw_below_drewN | apply below_drew1) | exact HB.out)⟩

end Go.Proofs.Ytafeakcajhhkoaa.Prt
namespace Go.Proofs.Ytafeakcajhhkoaa.Prt
open Go.RowKit Go.Proofs.YtafeakcajhhkoaaW.PrintWords Go.Proofs.YtafeakcajhhkoaaW.PrintLast Go.Proofs.YtafeakcajhhkoaaW.PrintMore
attribute [local go_sem] max2_int min2_int max_two min_two max_three min_three max_four min_four   -- for this text's walks alone
set_option linter.unusedVariables false
set_option linter.unusedSimpArgs false

def registrarref04_Rise.l0 : Nat → List ByteArray → Int → Option (Bool)
  | 0, _, _ => none
  | k + 1, x0, x3 => if x3 < (x0.length : Int) then (if 0 ≤ (wrap64 (x3 - 1)) then (if (wrap64 (x3 - 1)) < (x0.length : Int) then (if 0 ≤ x3 then (if ((Op.bytesLess ((rdOf ByteArray.empty x0 (wrap64 (x3 - 1))).toList) ((rdOf ByteArray.empty x0 x3).toList)) = true) then (registrarref04_Rise.l0 k x0 (wrap64 (x3 + 1))) else (some false)) else (none)) else (none)) else (none)) else (some true)
def registrarref04_Rise.f (k : Nat) (l0 : List ByteArray) : Option (Bool) := registrarref04_Rise.l0 k l0 1
set_option maxHeartbeats 8000000 in
set_option maxRecDepth 100000 in
theorem registrarref04_Rise.calls (k : Nat) (A0 : Option Addr) (c0 : Nat) (l0 : List ByteArray) (r : Bool) (w : World) (hr0 : Kd.C Kd.string w A0 l0.length l0) (hc0 : l0.length ≤ c0) (h : registrarref04_Rise.f k l0 = some r) :
    Calls Try.prog 45 #[.slice A0 l0.length c0] w fun e w' => e = .returned (.bool r) ∧ Drawn0 w w' := by
  have HR0 := Aside0.mk hr0
  have HC0 := Aside0.mk hc0
  clear hr0 hc0
  have H : (registrarref04_Rise.l0 k l0 1) = some r := h
  clear h
  have H' := Aside0.mk H
  clear H
  go_enter Try.func45, Try.ntmps45
  go_wp2
  repeat (go_quiet (fail); try go_wp2)
  go_loopg [3] k (fun kq v3 w' => ∃ (x3_1 : Int), v3 = .int .i64 x3_1 ∧ Aside0 (registrarref04_Rise.l0 kq l0 x3_1 = some r) ∧ Aside0 (kq ≤ k) ∧ Drawn0 w w')
  case atStart => exact ⟨(1), (by first | rfl | (simp; done) | (simp [*]; done)), H', ⟨Nat.le_refl _⟩, by repeat (first | exact Drawn0.refl _ | apply Drawn0.step)⟩
  case round =>
    clear H'
    obtain ⟨x3_1, rfl, HA, HK1, ⟨m1, rfl⟩⟩ := hrel
    cases gk with
    | zero => exact absurd HA.out (by simp [registrarref04_Rise.l0])
    | succ k1 =>
      have H := HA.out
      clear HA
      simp only [registrarref04_Rise.l0] at H
      by_cases c2 : x3_1 < (l0.length : Int)
      · rw [if_pos c2] at H
        have c2b0 : decide (x3_1 < (l0.length : Int)) = true := decide_eq_true c2
        clear c2
        obtain ⟨ji3, hji3⟩ : ∃ j_ : Int, (wrap64 (x3_1 - 1)) = j_ := ⟨_, rfl⟩
        replace H : (if 0 ≤ (ji3) then (if (ji3) < (l0.length : Int) then (if 0 ≤ x3_1 then (if ((Op.bytesLess ((rdOf ByteArray.empty l0 (ji3)).toList) ((rdOf ByteArray.empty l0 x3_1).toList)) = true) then (registrarref04_Rise.l0 k1 l0 (wrap64 (x3_1 + 1))) else (some false)) else (none)) else (none)) else (none)) = some r := by first | (rw [hji3] at H; exact H) | (simp only [hji3] at H ⊢; exact H)
        have hji3w : (IntKind.i64.wrap (x3_1 - 1)) = ji3 := (i64_w _).trans hji3
        by_cases c4 : 0 ≤ (ji3)
        · rw [if_pos c4] at H
          have c4b0 : decide (0 ≤ (ji3)) = true := decide_eq_true c4
          clear c4
          by_cases c5 : (ji3) < (l0.length : Int)
          · rw [if_pos c5] at H
            have c5b0 : decide ((ji3) < (l0.length : Int)) = true := decide_eq_true c5
            clear c5
            by_cases c6 : 0 ≤ x3_1
            · rw [if_pos c6] at H
              have c6b0 : decide (0 ≤ x3_1) = true := decide_eq_true c6
              clear c6
              by_cases c7 : ((Op.bytesLess ((rdOf ByteArray.empty l0 (ji3)).toList) ((rdOf ByteArray.empty l0 x3_1).toList)) = true)
              · rw [if_pos c7] at H
                have c7b0 : (Op.bytesLess ((rdOf ByteArray.empty l0 (ji3)).toList) ((rdOf ByteArray.empty l0 x3_1).toList)) = true := c7
                clear c7
                have H' := Aside0.mk H
                clear H
                have p204 : 0 ≤ ((ji3) : Int) := of_decide_eq_true (by first | (with_reducible assumption) | assumption)
                have q204 : (ji3) < (l0.length : Int) := of_decide_eq_true (by first | (with_reducible assumption) | assumption)
                obtain ⟨ad204, e204, hx204_0⟩ := Kd.at_string HR0.out (ji3) p204 q204
                cases e204
                replace p204 := eq_true p204
                replace q204 := eq_true q204
                have p205 : 0 ≤ (x3_1 : Int) := of_decide_eq_true (by first | (with_reducible assumption) | assumption)
                have q205 : x3_1 < (l0.length : Int) := of_decide_eq_true (by first | (with_reducible assumption) | assumption)
                obtain ⟨ad205, e205, hx205_0⟩ := Kd.at_string HR0.out x3_1 p205 q205
                obtain rfl : ad204 = ad205 := (by injection e205)
                replace p205 := eq_true p205
                replace q205 := eq_true q205
                go_wp2
                repeat (go_quiet (fail); try go_wp2)
                go_roundg k1
                case measure => have := HK1.out; omega
                case rel => exact ⟨(wrap64 (x3_1 + 1)), (by first | rfl | (simp; done) | (simp [*]; done)), H', ⟨by have := HK1.out; omega⟩, by repeat (first | exact Drawn0.refl _ | apply Drawn0.step)⟩
              · rw [if_neg c7] at H
                have c7b0 : (Op.bytesLess ((rdOf ByteArray.empty l0 (ji3)).toList) ((rdOf ByteArray.empty l0 x3_1).toList)) = false := by simpa using c7
                clear c7
                obtain rfl := Option.some.inj H
                have p204 : 0 ≤ ((ji3) : Int) := of_decide_eq_true (by first | (with_reducible assumption) | assumption)
                have q204 : (ji3) < (l0.length : Int) := of_decide_eq_true (by first | (with_reducible assumption) | assumption)
                obtain ⟨ad204, e204, hx204_0⟩ := Kd.at_string HR0.out (ji3) p204 q204
                cases e204
                replace p204 := eq_true p204
                replace q204 := eq_true q204
                have p205 : 0 ≤ (x3_1 : Int) := of_decide_eq_true (by first | (with_reducible assumption) | assumption)
                have q205 : x3_1 < (l0.length : Int) := of_decide_eq_true (by first | (with_reducible assumption) | assumption)
                obtain ⟨ad205, e205, hx205_0⟩ := Kd.at_string HR0.out x3_1 p205 q205
                obtain rfl : ad204 = ad205 := (by injection e205)
                replace p205 := eq_true p205
                replace q205 := eq_true q205
                go_wp2
                repeat (go_quiet (fail); try go_wp2)
                go_ret
                exact ⟨by first | rfl | (simp; done) | (simp only [← hji3] <;> (first | rfl | simp)) | (simp [*]; done), by repeat (first | exact Drawn0.refl _ | apply Drawn0.step)⟩
            · rw [if_neg c6] at H
              exact absurd H (by simp)
          · rw [if_neg c5] at H
            exact absurd H (by simp)
        · rw [if_neg c4] at H
          exact absurd H (by simp)
      · rw [if_neg c2] at H
        have c2b0 : decide (x3_1 < (l0.length : Int)) = false := decide_eq_false c2
        clear c2
        obtain rfl := Option.some.inj H
        go_wp2
        repeat (go_quiet (fail); try go_wp2)
        go_ret
        exact ⟨by first | rfl | (simp; done) | (simp [*]; done), by repeat (first | exact Drawn0.refl _ | apply Drawn0.step)⟩

end Go.Proofs.Ytafeakcajhhkoaa.Prt
namespace Go.Proofs.Ytafeakcajhhkoaa.Prt
open Go.RowKit Go.Proofs.YtafeakcajhhkoaaW.PrintWords Go.Proofs.YtafeakcajhhkoaaW.PrintLast Go.Proofs.YtafeakcajhhkoaaW.PrintMore
attribute [local go_sem] max2_int min2_int max_two min_two max_three min_three max_four min_four   -- for this text's walks alone
set_option linter.unusedVariables false
set_option linter.unusedSimpArgs false

def registrarref04_Texts.l0 : Nat → List ByteArray → List ByteArray → Int → Option (Bool)
  | 0, _, _, _ => none
  | k + 1, x0, x1, x5 => if x5 < (x0.length : Int) then (if 0 ≤ x5 then (if x5 < (x1.length : Int) then (if (rdOf ByteArray.empty x0 x5).toList = (rdOf ByteArray.empty x1 x5).toList then (registrarref04_Texts.l0 k x0 x1 (wrap64 (x5 + 1))) else (some false)) else (none)) else (none)) else (some true)
def registrarref04_Texts.f (k : Nat) (l0 : List ByteArray) (l1 : List ByteArray) : Option (Bool) := if (l0.length : Int) = (l1.length : Int) then (registrarref04_Texts.l0 k l0 l1 0) else (some false)
set_option maxHeartbeats 8000000 in
set_option maxRecDepth 100000 in
theorem registrarref04_Texts.calls (k : Nat) (A0 : Option Addr) (c0 : Nat) (l0 : List ByteArray) (A1 : Option Addr) (c1 : Nat) (l1 : List ByteArray) (r : Bool) (w : World) (hr0 : Kd.C Kd.string w A0 l0.length l0) (hc0 : l0.length ≤ c0) (hr1 : Kd.C Kd.string w A1 l1.length l1) (hc1 : l1.length ≤ c1) (h : registrarref04_Texts.f k l0 l1 = some r) :
    Calls Try.prog 59 #[.slice A0 l0.length c0, .slice A1 l1.length c1] w fun e w' => e = .returned (.bool r) ∧ Drawn0 w w' := by
  have HR0 := Aside0.mk hr0
  have HC0 := Aside0.mk hc0
  clear hr0 hc0
  have HR1 := Aside0.mk hr1
  have HC1 := Aside0.mk hc1
  clear hr1 hc1
  have H : (if (l0.length : Int) = (l1.length : Int) then (registrarref04_Texts.l0 k l0 l1 0) else (some false)) = some r := h
  clear h
  by_cases c3 : (l0.length : Int) = (l1.length : Int)
  · rw [if_pos c3] at H
    have c3b0 : ((l0.length : Int) == (l1.length : Int)) = true := beq_iff_eq.mpr c3
    have c3b1 : ((l0.length : Int) != (l1.length : Int)) = false := bne_eq_false_iff_eq.mpr c3
    have c3b2 : (l0.length == l1.length) = true := by first | simpa using c3 | (simp at c3 ⊢; omega)
    clear c3
    have H' := Aside0.mk H
    clear H
    go_enter Try.func59, Try.ntmps59
    go_wp2
    repeat (go_quiet (fail); try go_wp2)
    go_loopg [5] k (fun kq v5 w' => ∃ (x5_1 : Int), v5 = .int .i64 x5_1 ∧ Aside0 (registrarref04_Texts.l0 kq l0 l1 x5_1 = some r) ∧ Aside0 (kq ≤ k) ∧ Drawn0 w w')
    case atStart => exact ⟨(0), (by first | rfl | (simp; done) | (simp [*]; done)), H', ⟨Nat.le_refl _⟩, by repeat (first | exact Drawn0.refl _ | apply Drawn0.step)⟩
    case round =>
      clear H'
      try clear c1
      try clear p2
      try clear c3
      try clear c3b0
      try clear c3b1
      try clear c3b2
      obtain ⟨x5_1, rfl, HA, HK1, ⟨m1, rfl⟩⟩ := hrel
      cases gk with
      | zero => exact absurd HA.out (by simp [registrarref04_Texts.l0])
      | succ k1 =>
        have H := HA.out
        clear HA
        simp only [registrarref04_Texts.l0] at H
        by_cases c4 : x5_1 < (l0.length : Int)
        · rw [if_pos c4] at H
          have c4b0 : decide (x5_1 < (l0.length : Int)) = true := decide_eq_true c4
          clear c4
          by_cases c5 : 0 ≤ x5_1
          · rw [if_pos c5] at H
            have c5b0 : decide (0 ≤ x5_1) = true := decide_eq_true c5
            clear c5
            by_cases c6 : x5_1 < (l1.length : Int)
            · rw [if_pos c6] at H
              have c6b0 : decide (x5_1 < (l1.length : Int)) = true := decide_eq_true c6
              clear c6
              by_cases c7 : (rdOf ByteArray.empty l0 x5_1).toList = (rdOf ByteArray.empty l1 x5_1).toList
              · rw [if_pos c7] at H
                have c7b0 : ((rdOf ByteArray.empty l0 x5_1).toList == (rdOf ByteArray.empty l1 x5_1).toList) = true := beq_iff_eq.mpr c7
                have c7b1 : ((rdOf ByteArray.empty l0 x5_1).toList != (rdOf ByteArray.empty l1 x5_1).toList) = false := bne_eq_false_iff_eq.mpr c7
                clear c7
                have H' := Aside0.mk H
                clear H
                have p281 : 0 ≤ (x5_1 : Int) := of_decide_eq_true (by first | (with_reducible assumption) | assumption)
                have q281 : x5_1 < (l0.length : Int) := of_decide_eq_true (by first | (with_reducible assumption) | assumption)
                obtain ⟨ad281, e281, hx281_0⟩ := Kd.at_string HR0.out x5_1 p281 q281
                cases e281
                replace p281 := eq_true p281
                replace q281 := eq_true q281
                have p282 : 0 ≤ (x5_1 : Int) := of_decide_eq_true (by first | (with_reducible assumption) | assumption)
                have q282 : x5_1 < (l1.length : Int) := of_decide_eq_true (by first | (with_reducible assumption) | assumption)
                obtain ⟨ad282, e282, hx282_0⟩ := Kd.at_string HR1.out x5_1 p282 q282
                cases e282
                replace p282 := eq_true p282
                replace q282 := eq_true q282
                go_wp2
                repeat (go_quiet (fail); try go_wp2)
                go_roundg k1
                case measure => have := HK1.out; omega
                case rel => exact ⟨(wrap64 (x5_1 + 1)), (by first | rfl | (simp; done) | (simp [*]; done)), H', ⟨by have := HK1.out; omega⟩, by repeat (first | exact Drawn0.refl _ | apply Drawn0.step)⟩
              · rw [if_neg c7] at H
                have c7b0 : ((rdOf ByteArray.empty l0 x5_1).toList == (rdOf ByteArray.empty l1 x5_1).toList) = false := beq_eq_false_iff_ne.mpr c7
                have c7b1 : ((rdOf ByteArray.empty l0 x5_1).toList != (rdOf ByteArray.empty l1 x5_1).toList) = true := bne_iff_ne.mpr c7
                obtain rfl := Option.some.inj H
                have p281 : 0 ≤ (x5_1 : Int) := of_decide_eq_true (by first | (with_reducible assumption) | assumption)
                have q281 : x5_1 < (l0.length : Int) := of_decide_eq_true (by first | (with_reducible assumption) | assumption)
                obtain ⟨ad281, e281, hx281_0⟩ := Kd.at_string HR0.out x5_1 p281 q281
                cases e281
                replace p281 := eq_true p281
                replace q281 := eq_true q281
                have p282 : 0 ≤ (x5_1 : Int) := of_decide_eq_true (by first | (with_reducible assumption) | assumption)
                have q282 : x5_1 < (l1.length : Int) := of_decide_eq_true (by first | (with_reducible assumption) | assumption)
                obtain ⟨ad282, e282, hx282_0⟩ := Kd.at_string HR1.out x5_1 p282 q282
                cases e282
                replace p282 := eq_true p282
                replace q282 := eq_true q282
                go_wp2
                repeat (go_quiet (fail); try go_wp2)
                go_ret
                exact ⟨by first | rfl | (simp; done) | (simp [*]; done), by repeat (first | exact Drawn0.refl _ | apply Drawn0.step)⟩
            · rw [if_neg c6] at H
              exact absurd H (by simp)
          · rw [if_neg c5] at H
            exact absurd H (by simp)
        · rw [if_neg c4] at H
          have c4b0 : decide (x5_1 < (l0.length : Int)) = false := decide_eq_false c4
          clear c4
          obtain rfl := Option.some.inj H
          go_wp2
          repeat (go_quiet (fail); try go_wp2)
          go_ret
          exact ⟨by first | rfl | (simp; done) | (simp [*]; done), by repeat (first | exact Drawn0.refl _ | apply Drawn0.step)⟩
  · rw [if_neg c3] at H
    have c3b0 : ((l0.length : Int) == (l1.length : Int)) = false := beq_eq_false_iff_ne.mpr c3
    have c3b1 : ((l0.length : Int) != (l1.length : Int)) = true := bne_iff_ne.mpr c3
    have c3b2 : (l0.length == l1.length) = false := by first | simpa using c3 | (simp at c3 ⊢; omega)
    obtain rfl := Option.some.inj H
    go_enter Try.func59, Try.ntmps59
    go_wp2
    repeat (go_quiet (fail); try go_wp2)
    go_ret
    exact ⟨by first | rfl | (simp; done) | (simp [*]; done), by repeat (first | exact Drawn0.refl _ | apply Drawn0.step)⟩

end Go.Proofs.Ytafeakcajhhkoaa.Prt
namespace Go.Proofs.Ytafeakcajhhkoaa.Prt
open Go.RowKit Go.Proofs.YtafeakcajhhkoaaW.PrintWords Go.Proofs.YtafeakcajhhkoaaW.PrintLast Go.Proofs.YtafeakcajhhkoaaW.PrintMore Go.Proofs.Ytafeakcajhhkoaa.Num Go.Proofs.Ytafeakcajhhkoaa.Nam
set_option linter.unusedVariables false
set_option linter.unusedSimpArgs false

def fitS (l : List ByteArray) : Bool := l.all fun x => decide (x.size ≤ 9223372036854775807)
theorem fitS_iff {l : List ByteArray} : fitS l = true ↔ ∀ x ∈ l, x.size ≤ 9223372036854775807 := by
  unfold fitS; simp only [List.all_eq_true, decide_eq_true_eq]
theorem succW (i : Nat) (h : i < 9223372036854775807) : wrap64 ((i : Int) + 1) = ((i + 1 : Nat) : Int) := by rw [wrapI (by omega) (by omega)]; omega
theorem rdOf_mem {l : List ByteArray} {i : Nat} (h : i < l.length) : rdOf ByteArray.empty l (i : Int) ∈ l := getD_mem' h _
theorem drop_rd (l : List ByteArray) (i : Nat) (h : i < l.length) : l.drop i = rdOf ByteArray.empty l (i : Int) :: l.drop (i + 1) := by
  rw [List.drop_eq_getElem_cons h]
  unfold rdOf
  rw [Int.toNat_natCast, List.getD_eq_getElem?_getD, List.getElem?_eq_getElem h]; rfl
theorem partsS_tag (s : ByteArray) : (partsS s).2.2 = tagB s := by
  unfold partsS
  cases tagB s <;> rfl
theorem tags_loop (l : List ByteArray) (hl : l.length ≤ 9223372036854775807) (hf : ∀ x ∈ l, x.size ≤ 9223372036854775807) : ∀ (n i k : Nat), i + n = l.length → n < k → registrarref04_tags.l0 k l (i : Int) = some ((l.drop i).all tagB) := by
  intro n
  induction n with
  | zero =>
    intro i k hi hk
    obtain ⟨k, rfl⟩ : ∃ m, k = m + 1 := ⟨k - 1, by omega⟩
    rw [registrarref04_tags.l0, if_neg (by omega), List.drop_eq_nil_of_le (by omega)]; rfl
  | succ n ih =>
    intro i k hi hk
    obtain ⟨k, rfl⟩ : ∃ m, k = m + 1 := ⟨k - 1, by omega⟩
    have m1 : registrarref03_PartsG.f (rdOf ByteArray.empty l (i : Int)) = some (partsS (rdOf ByteArray.empty l (i : Int))) := by
      unfold registrarref03_PartsG.f
      exact if_pos (hf _ (rdOf_mem (by omega)))
    rw [registrarref04_tags.l0, if_pos (by omega), if_pos (by omega), m1, drop_rd l i (by omega), List.all_cons]
    simp only [Option.bind_some]
    rw [partsS_tag]
    cases tagB (rdOf ByteArray.empty l (i : Int)) with
    | true => rw [if_pos rfl, succW i (by omega), ih (i + 1) k (by omega) (by omega)]; rfl
    | false => rfl
def registrarref04_tagsG.f (l0 : List ByteArray) : Option (Bool) := if l0.length ≤ 9223372036854775807 ∧ fitS l0 = true then some (l0.all tagB) else none
theorem registrarref04_tagsG.val {l0 : List ByteArray} {r : Bool} (h : registrarref04_tagsG.f l0 = some r) : ∃ k, registrarref04_tags.f k l0 = some r := by
  unfold registrarref04_tagsG.f at h
  by_cases hc : l0.length ≤ 9223372036854775807 ∧ fitS l0 = true
  · rw [if_pos hc] at h
    rw [← h]
    exact ⟨_, tags_loop l0 hc.1 (fitS_iff.1 hc.2) l0.length 0 (l0.length + 1) (by omega) (by omega)⟩
  · rw [if_neg hc] at h; cases h
theorem registrarref04_tagsG.calls (A0 : Option Addr) (c0 : Nat) (l0 : List ByteArray) (r : Bool) (w : World) (hr0 : Kd.C Kd.string w A0 l0.length l0) (hc0 : l0.length ≤ c0) (h : registrarref04_tagsG.f l0 = some r) :
    Calls Try.prog 44 #[.slice A0 l0.length c0] w fun e w' => e = .returned (.bool r) ∧ Below w.heap.size w w' := by
  obtain ⟨k, hk⟩ := registrarref04_tagsG.val h
  exact registrarref04_tags.calls k A0 c0 l0 r w hr0 hc0 hk

theorem rise04_loop (l : List ByteArray) (hl : l.length ≤ 9223372036854775807) : ∀ (d i k : Nat), i + 1 + d = l.length → d < k → registrarref04_Rise.l0 k l ((i + 1 : Nat) : Int) = some (riseB (l.drop i)) := by
  intro d
  induction d with
  | zero =>
    intro i k hi hk
    obtain ⟨k, rfl⟩ : ∃ m, k = m + 1 := ⟨k - 1, by omega⟩
    rw [registrarref04_Rise.l0, if_neg (by omega), rise_end l i (by omega)]
  | succ d ih =>
    intro i k hi hk
    obtain ⟨k, rfl⟩ : ∃ m, k = m + 1 := ⟨k - 1, by omega⟩
    have e1 : wrap64 (((i + 1 : Nat) : Int) - 1) = (i : Int) := by rw [wrapI (by omega) (by omega)]; omega
    rw [registrarref04_Rise.l0, if_pos (by omega), e1, succW (i + 1) (by omega), if_pos (by omega), if_pos (by omega), if_pos (by omega), rise_step l i (by omega)]
    have e3 : Op.bytesLess (rdOf ByteArray.empty l (i : Int)).toList (rdOf ByteArray.empty l ((i + 1 : Nat) : Int)).toList = lessS (l.getD i ByteArray.empty) (l.getD (i + 1) ByteArray.empty) := rfl
    rw [e3]
    cases hs : lessS (l.getD i ByteArray.empty) (l.getD (i + 1) ByteArray.empty) with
    | true => rw [if_pos rfl, ih (i + 1) k (by omega) (by omega)]; rfl
    | false => rw [if_neg (by decide)]; rfl
def registrarref04_RiseG.f (l0 : List ByteArray) : Option (Bool) := if l0.length ≤ 9223372036854775807 then some (riseB l0) else none
theorem registrarref04_RiseG.val {l0 : List ByteArray} {r : Bool} (h : registrarref04_RiseG.f l0 = some r) : ∃ k, registrarref04_Rise.f k l0 = some r := by
  unfold registrarref04_RiseG.f at h
  by_cases hc : l0.length ≤ 9223372036854775807
  · rw [if_pos hc] at h
    rw [← h]
    refine ⟨l0.length + 1, ?_⟩
    unfold registrarref04_Rise.f
    cases hl : l0.length with
    | zero =>
      obtain rfl := List.eq_nil_of_length_eq_zero hl
      rfl
    | succ n =>
      have := rise04_loop l0 hc n 0 (n + 1 + 1) (by omega) (by omega)
      rwa [List.drop_zero] at this
  · rw [if_neg hc] at h; cases h
theorem registrarref04_RiseG.calls (A0 : Option Addr) (c0 : Nat) (l0 : List ByteArray) (r : Bool) (w : World) (hr0 : Kd.C Kd.string w A0 l0.length l0) (hc0 : l0.length ≤ c0) (h : registrarref04_RiseG.f l0 = some r) :
    Calls Try.prog 45 #[.slice A0 l0.length c0] w fun e w' => e = .returned (.bool r) ∧ Drawn0 w w' := by
  obtain ⟨k, hk⟩ := registrarref04_RiseG.val h
  exact registrarref04_Rise.calls k A0 c0 l0 r w hr0 hc0 hk

/-- Two rows are the same, element by element. -/
def eqL {α : Type} (e : α → α → Bool) : List α → List α → Bool
  | [], [] => true
  | a :: r, b :: s => e a b && eqL e r s
  | _, _ => false
theorem eqL_iff {α : Type} {e : α → α → Bool} (h : ∀ x y, e x y = true ↔ x = y) : ∀ a b, eqL e a b = true ↔ a = b
  | [], [] => by simp [eqL]
  | a :: r, b :: s => by simp [eqL, h, eqL_iff h r s]
  | [], _ :: _ => by simp [eqL]
  | _ :: _, [] => by simp [eqL]
theorem eqL_len {α : Type} {e : α → α → Bool} : ∀ a b, a.length ≠ b.length → eqL e a b = false
  | [], [], h => absurd rfl h
  | a :: r, b :: s, h => by rw [eqL, eqL_len r s (fun h2 => h (by simp [h2])), Bool.and_false]
  | [], _ :: _, _ => rfl
  | _ :: _, [], _ => rfl
def eqS (a b : ByteArray) : Bool := a.toList == b.toList
theorem eqS_iff (a b : ByteArray) : eqS a b = true ↔ a = b := by unfold eqS; rw [beq_iff_eq]; exact ⟨toList_inj, fun h => by rw [h]⟩
theorem texts_loop (a b : List ByteArray) (hl : a.length ≤ 9223372036854775807) (hab : a.length = b.length) : ∀ (n i k : Nat), i + n = a.length → n < k → registrarref04_Texts.l0 k a b (i : Int) = some (eqL eqS (a.drop i) (b.drop i)) := by
  intro n
  induction n with
  | zero =>
    intro i k hi hk
    obtain ⟨k, rfl⟩ : ∃ m, k = m + 1 := ⟨k - 1, by omega⟩
    rw [registrarref04_Texts.l0, if_neg (by omega), List.drop_eq_nil_of_le (by omega), List.drop_eq_nil_of_le (by omega)]; rfl
  | succ n ih =>
    intro i k hi hk
    obtain ⟨k, rfl⟩ : ∃ m, k = m + 1 := ⟨k - 1, by omega⟩
    rw [registrarref04_Texts.l0, if_pos (by omega), if_pos (by omega), if_pos (by omega), drop_rd a i (by omega), drop_rd b i (by omega), eqL]
    by_cases he : (rdOf ByteArray.empty a (i : Int)).toList = (rdOf ByteArray.empty b (i : Int)).toList
    · rw [if_pos he, succW i (by omega), ih (i + 1) k (by omega) (by omega)]
      have : eqS (rdOf ByteArray.empty a (i : Int)) (rdOf ByteArray.empty b (i : Int)) = true := beq_iff_eq.2 he
      rw [this]; rfl
    · rw [if_neg he]
      have : eqS (rdOf ByteArray.empty a (i : Int)) (rdOf ByteArray.empty b (i : Int)) = false := beq_eq_false_iff_ne.2 he
      rw [this]; rfl
def registrarref04_TextsG.f (l0 : List ByteArray) (l1 : List ByteArray) : Option (Bool) := if l0.length ≤ 9223372036854775807 then some (eqL eqS l0 l1) else none
theorem registrarref04_TextsG.val {l0 l1 : List ByteArray} {r : Bool} (h : registrarref04_TextsG.f l0 l1 = some r) : ∃ k, registrarref04_Texts.f k l0 l1 = some r := by
  unfold registrarref04_TextsG.f at h
  by_cases hc : l0.length ≤ 9223372036854775807
  · rw [if_pos hc] at h
    rw [← h]
    refine ⟨l0.length + 1, ?_⟩
    unfold registrarref04_Texts.f
    by_cases hl : l0.length = l1.length
    · rw [if_pos (by omega)]
      exact texts_loop l0 l1 hc hl l0.length 0 (l0.length + 1) (by omega) (by omega)
    · rw [if_neg (by omega), eqL_len _ _ hl]
  · rw [if_neg hc] at h; cases h
theorem registrarref04_TextsG.calls (A0 : Option Addr) (c0 : Nat) (l0 : List ByteArray) (A1 : Option Addr) (c1 : Nat) (l1 : List ByteArray) (r : Bool) (w : World) (hr0 : Kd.C Kd.string w A0 l0.length l0) (hc0 : l0.length ≤ c0) (hr1 : Kd.C Kd.string w A1 l1.length l1) (hc1 : l1.length ≤ c1) (h : registrarref04_TextsG.f l0 l1 = some r) :
    Calls Try.prog 59 #[.slice A0 l0.length c0, .slice A1 l1.length c1] w fun e w' => e = .returned (.bool r) ∧ Drawn0 w w' := by
  obtain ⟨k, hk⟩ := registrarref04_TextsG.val h
  exact registrarref04_Texts.calls k A0 c0 l0 A1 c1 l1 r w hr0 hc0 hr1 hc1 hk
end Go.Proofs.Ytafeakcajhhkoaa.Prt
